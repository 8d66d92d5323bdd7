/- The document's own Prog: its contract is paid, and all that check tells of a config is what the document says. -/
import Derived.Test.YtjboohjicdmidaaDoorRu
namespace Go.Proofs.YtjboohjicdmidaaDoor
open Go.RowKit Go.Am Go.Sy
set_option linter.unusedVariables false
set_option linter.unusedSimpArgs false

theorem r2Ok : CtrOk F.S (lookC r2) := lookC_ok fun p h => by
  simp only [r2, List.mem_cons, List.not_mem_nil, or_false] at h
  rcases h with rfl | rfl | rfl
  · exact miOk
  · exact rmOk
  · exact reOk
section
variable (c : Config) (t : Nat)
theorem rq_e_ok (hs : small c) (ht : t < c.progs.length) : Paid (entryX F (lookC r2) 300 Tryd.f52 b52 (rpF c t) [.agg (enc4 c), .i .i64 t]) := by
  refine ⟨?_⟩
  rw [rq_e]
  refine ⟨fun h => ?_, fun _ => ⟨fun h => ?_, fun _ => ⟨⟨by omega, by omega⟩, fun h => ?_, fun h => ⟨0, rfl, rfl, rfl, rfl, rfl, rfl, rfl, rfl, rfl, rfl, rfl, rfl, rfl, rfl, rfl, ⟨Nat.zero_le _, ?_, rfl, fun k hk => by omega⟩, trivial⟩⟩⟩⟩
  · have := of_decide_eq_true h; omega
  · have := of_decide_eq_true h; omega
  · have h := of_decide_eq_true h
    rw [pwC, progP, if_pos h]
    exact ⟨rfl, rfl, trivial⟩
  · have := of_decide_eq_false h; omega
theorem rq_7_ok (i : Nat) (hi : i ≤ (at3 c.progs t).length) (h48 : (at3 c.progs t).length ≤ 48) (hm : mayGo (at3 c.progs t) ((at3 c.progs t).length - i) i = mayGo (at3 c.progs t) (at3 c.progs t).length 0) (ha : ∀ k : Nat, k < i → mayB (at2 (at3 c.progs t) k) = true) :
    Paid (cutVC F (lookC r2) 300 Tryd.f52 b52 (rpF c t) 7 (rpC7 c t) i) := by
  refine ⟨?_⟩
  rw [rq_7]
  have hw : IntKind.i64.wrap ((i : Int) + 1) = ((i + 1 : Nat) : Int) := succ64 (by omega)
  rw [hw]
  generalize hp : at3 c.progs t = p at hi h48 hm ha ⊢
  have e : ∀ x : Instr, Instr.mk x.op x.a x.b x.c x.n = x := fun _ => rfl
  have hpw : pwC c t = progP c t p := by rw [pwC, hp]
  refine ⟨fun h => ?_, fun h => ?_⟩
  · have h : i < p.length := by have := of_decide_eq_true h; omega
    have hs := may_step h
    refine ⟨⟨by omega, by omega⟩, trivial, fun g => ?_, fun g => ⟨i + 1, rfl, rfl, rfl, rfl, rfl, rfl, rfl, rfl, rfl, rfl, rfl, rfl, rfl, rfl, rfl, ⟨h, h48, ?_, ?_⟩, by show 200 - (i + 1) < 200 - i; omega, trivial⟩⟩
    · have g : ¬ mayB (at2 p i) = true := by simpa using g
      rw [if_neg g, hm] at hs
      rw [hpw, progP, if_neg (by omega), if_pos (by omega), hs]
      exact ⟨rfl, rfl, trivial⟩
    · have g : mayB (at2 p i) = true := by simpa using g
      rw [if_pos g] at hs
      rw [← hs]
      exact hm
    · have g : mayB (at2 p i) = true := by simpa using g
      intro k hk
      by_cases e2 : k = i
      · rw [e2]; exact g
      · exact ha k (by omega)
  · have h : i = p.length := by have := of_decide_eq_false h; omega
    subst h
    rw [Nat.sub_self] at hm
    have hm0 : mayGo p p.length 0 = -1 := hm.symm
    refine ⟨by show p.length ≤ 100000; omega, fun g => ?_, fun g => ?_⟩
    · have g : (matesR p).2 ≥ 0 := of_decide_eq_true g
      rw [hpw, progP, if_neg (by omega), if_neg (by omega), if_pos g]
      exact ⟨rfl, rfl, trivial⟩
    · have g : ¬ (matesR p).2 ≥ 0 := of_decide_eq_false g
      refine ⟨⟨⟨0, ⟨[], 0, 0⟩, ⟨List.replicate p.length 0, []⟩⟩, [], 0, 0⟩, rfl, rfl, rfl, rfl, rfl, rfl, rfl, rfl, rfl, rfl, rfl, rfl, rfl, rfl, rfl, rfl, rfl, rfl, ⟨⟨Nat.zero_le _, h48, ha, ?_, ⟨Int.le_refl 0, Int.le_refl 0⟩, Nat.le_refl _, by omega, ⟨Nat.zero_le _, ⟨List.length_replicate, fun b hb => by cases hb⟩, Nat.le_refl _, rfl⟩, rfl⟩, ⟨rfl, fun k hk => (by cases hk), fun h => (h rfl).elim, ⟨Int.le_refl 0, Int.le_refl 0⟩, .nil, fun x hx => by cases hx⟩⟩, by show 100 - 0 < 200 - p.length; omega, trivial⟩
      rw [hpw, progP, if_neg (by omega), if_neg (by omega), if_neg g]
      rfl
theorem rq_16_ok (i : Nat) (ws : WS) (q : MS) (o : List Int) (last loops : Int) (hI : pgI c t (at3 c.progs t) ⟨i, ws, q⟩) (hL : rLink (at3 c.progs t) ⟨⟨i, ws, q⟩, o, last, loops⟩) : Paid (cutVC F (lookC r2) 300 Tryd.f52 b52 (rpF c t) 16 (rpC16 c t) ⟨⟨i, ws, q⟩, o, last, loops⟩) := by
  refine ⟨?_⟩
  rw [rq_16]
  generalize hp : at3 c.progs t = p at hI hL ⊢
  have k1 : i ≤ p.length := hI.1
  have k2 : p.length ≤ 48 := hI.2.1
  have hl := hL.len
  have l4 : -(i : Int) ≤ loops ∧ loops ≤ i := hL.2.2.2.1
  have hw : IntKind.i64.wrap ((i : Int) + 1) = ((i + 1 : Nat) : Int) := succ64 (by omega)
  have k6 : ws.o.length ≤ i := hI.2.2.2.2.2.1
  have hwo : IntKind.i64.wrap ((o.length : Int) - 1) = (o.length : Int) - 1 := wrap64 (by omega) (by omega)
  have hwp : IntKind.i64.wrap (loops + 1) = loops + 1 := wrap64 (by omega) (by omega)
  have hwm : IntKind.i64.wrap (loops - 1) = loops - 1 := wrap64 (by omega) (by omega)
  rw [hw, hwo, hwp, hwm]
  refine ⟨fun h => ?_, fun h => ?_⟩
  · have h : (i : Int) < p.length := of_decide_eq_true h
    have h : i < p.length := by omega
    have hmeas : 100 - (i + 1) < 100 - i := by omega
    have hm := hI.2.2.1 i h
    have ha := may_a hm
    have ri : (0 : Int) ≤ (i : Int) ∧ (i : Int) < (p.length : Int) := ⟨by omega, by omega⟩
    have sz : (o.length + [(i : Int)].length) * 8 ≤ 140737488355328 := by simp only [List.length_cons, List.length_nil]; omega
    have zz : (0 : Int) ≤ 0 := Int.le_refl _
    have et : ((o.length : Int) - 1).toNat - 0 = o.length - 1 := by omega
    -- what is told of something wrong
    have fail : ∀ k : Int, wcode c (at2 p i) ws = k → k ≠ 0 → k = (pwC c t).1 ∧ (i : Int) = (pwC c t).2.2 := fun k hk h0 => by
      have e := hI.2.2.2.1
      replace e : pwC c t = wgo c t p (p.length - i) i ws := e
      rw [wgo_step h, if_neg (by rw [hk]; exact h0), hk] at e
      rw [e]
      exact ⟨rfl, rfl⟩
    have c13 : (at2 p i).op = 13 → wcode c (at2 p i) ws = (if (at2 p i).a ≥ c.locks.length then 6 else if (at2 p i).b = 1 ∧ (at1 c.locks (at2 p i).a).kind ≠ 3 then 7 else if (o.length : Int) ≥ 3 then 5 else if (o.length : Int) > 0 ∧ (loops > 0 ∨ (at2 p i).a ≤ last) then 8 else 0) := fun g => by
      have l3 : o ≠ [] → ws.top = last ∧ ws.loops = loops := hL.2.2.1
      rw [wcode, if_pos g, hl]
      by_cases e1 : (at2 p i).a ≥ c.locks.length
      · rw [if_pos e1, if_pos e1]
      rw [if_neg e1, if_neg e1]
      by_cases e2 : (at2 p i).b = 1 ∧ (at1 c.locks (at2 p i).a).kind ≠ 3
      · rw [if_pos e2, if_pos e2]
      rw [if_neg e2, if_neg e2]
      by_cases e0 : (o.length : Int) = 0
      · rw [if_pos e0, if_neg (by omega), if_neg (by omega)]
      · have hne : o ≠ [] := by rintro rfl; exact e0 rfl
        obtain ⟨t1, t2⟩ := l3 hne
        rw [if_neg e0, t1, t2]
        by_cases e3 : (o.length : Int) ≥ 3
        · rw [if_pos e3, if_pos e3]
        rw [if_neg e3, if_neg e3]
        by_cases e4 : loops > 0 ∨ (at2 p i).a ≤ last
        · rw [if_pos e4, if_pos ⟨by omega, e4⟩]
        · rw [if_neg e4, if_neg (fun z => e4 z.2)]
    have on : ∀ (o' : List Int) (ls lp : Int), wcode c (at2 p i) ws = 0 → (∀ q', rLink p ⟨⟨i + 1, wnext (at2 p i) ws, q'⟩, o', ls, lp⟩) → ∃ (s : RpS), (t : Int) = (t : Int) ∧ c.engine = c.engine ∧ c.clock = c.clock ∧ c.stripes = c.stripes ∧ c.reads = c.reads ∧ c.writes = c.writes ∧ c.retry = c.retry ∧ c.fuel = c.fuel ∧ c.most = c.most ∧ c.init = c.init ∧ c.locks = c.locks ∧ c.conds = c.conds ∧ c.progs = c.progs ∧ p = p ∧
        o' = s.o ∧ ls = s.last ∧ lp = s.loops ∧ ((i + 1 : Nat) : Int) = (s.g.i : Int) ∧ (pgI c t p s.g ∧ rLink p s) ∧ 100 - s.g.i < 100 - i ∧ True := fun o' ls lp h0 hk => by
      obtain ⟨q', hq⟩ := pg_next hI h h0
      exact ⟨⟨⟨i + 1, wnext (at2 p i) ws, q'⟩, o', ls, lp⟩, rfl, rfl, rfl, rfl, rfl, rfl, rfl, rfl, rfl, rfl, rfl, rfl, rfl, rfl, rfl, rfl, rfl, rfl, ⟨hq, hk q'⟩, hmeas, trivial⟩
    have w0 : (at2 p i).op = 14 ∨ (at2 p i).op = 21 ∨ (at2 p i).op = 22 → wcode c (at2 p i) ws = 0 := fun g => by
      rw [wcode, if_neg (by omega), if_neg (by omega), if_neg (by omega), if_neg (by omega), if_neg (by omega)]
    have wr := fun g : (at2 p i).op ≠ 13 => rest_is (c := c) hm hL g
    have nbe : ∀ {a b : Int}, (a != b) = true → a ≠ b := fun {a b} h => by simpa using h
    have ybe : ∀ {a b : Int}, (a != b) = false → a = b := fun {a b} h => by simpa using h
    refine ⟨ri, fun g13 => ?_, fun g13 => ⟨fun g14 => ?_, fun g14 => ⟨fun g21 => ?_, fun g21 => ⟨fun g22 => ?_, fun g22 => ?_⟩⟩⟩⟩
    · have g13 : (at2 p i).op = 13 := eq_of_beq g13
      have ce := c13 g13
      clear c13
      have entered : ¬ (at2 p i).a ≥ c.locks.length → ¬ ((at2 p i).b = 1 ∧ (at1 c.locks (at2 p i).a).kind ≠ 3) → (decide ((o.length : Int) ≥ 3) = true → 5 = (pwC c t).1 ∧ (i : Int) = (pwC c t).2.2 ∧ True) ∧ (decide ((o.length : Int) ≥ 3) = false → _) := fun e1 e2 => by
        rw [if_neg e1, if_neg e2] at ce
        exact (⟨fun e3 => by
          rw [if_pos (of_decide_eq_true e3)] at ce
          have := fail 5 ce (by decide)
          exact ⟨this.1, this.2, trivial⟩, fun e3 => by
          rw [if_neg (of_decide_eq_false e3)] at ce
          have go : ¬ ((o.length : Int) > 0 ∧ (loops > 0 ∨ (at2 p i).a ≤ last)) → ∀ lp : Int, lp = (if o.length = 0 then 0 else loops) → _ := fun e4 lp hlp => on (o ++ [(i : Int)]) (at2 p i).a lp (by rw [ce, if_neg e4]) (fun q' => link_enter hL h hm g13 (by rw [ce, if_neg e4]) hlp)
          have bad : (o.length : Int) > 0 ∧ (loops > 0 ∨ (at2 p i).a ≤ last) → 8 = (pwC c t).1 ∧ (i : Int) = (pwC c t).2.2 ∧ True := fun e4 => by
            rw [if_pos e4] at ce
            have := fail 8 ce (by decide)
            exact ⟨this.1, this.2, trivial⟩
          have tail : ¬ ((o.length : Int) > 0 ∧ (loops > 0 ∨ (at2 p i).a ≤ last)) → (((o.length : Int) == 0) = true → (o.length + [(i : Int)].length) * 8 ≤ 140737488355328 ∧ _) ∧ (((o.length : Int) == 0) = false → (o.length + [(i : Int)].length) * 8 ≤ 140737488355328 ∧ _) := fun e4 =>
            ⟨fun z => ⟨sz, go e4 0 (by have : (o.length : Int) = 0 := eq_of_beq z; rw [if_pos (by omega)])⟩, fun z => ⟨sz, go e4 loops (by have : ¬ (o.length : Int) = 0 := ne_of_beq_false z; rw [if_neg (by omega)])⟩⟩
          exact (⟨fun z => ⟨fun y => bad ⟨of_decide_eq_true z, .inl (of_decide_eq_true y)⟩, fun y => ⟨fun x => bad ⟨of_decide_eq_true z, .inr (of_decide_eq_true x)⟩, fun x => tail (fun w => w.2.elim (of_decide_eq_false y) (of_decide_eq_false x))⟩⟩, fun z => tail (fun w => of_decide_eq_false z w.1)⟩ :
            (decide ((o.length : Int) > 0) = true → (decide (loops > 0) = true → 8 = (pwC c t).1 ∧ (i : Int) = (pwC c t).2.2 ∧ True) ∧ (decide (loops > 0) = false → (decide ((at2 p i).a ≤ last) = true → 8 = (pwC c t).1 ∧ (i : Int) = (pwC c t).2.2 ∧ True) ∧ (decide ((at2 p i).a ≤ last) = false → _))) ∧ (decide ((o.length : Int) > 0) = false → _))⟩ :
          (decide ((o.length : Int) ≥ 3) = true → 5 = (pwC c t).1 ∧ (i : Int) = (pwC c t).2.2 ∧ True) ∧ (decide ((o.length : Int) ≥ 3) = false → _))
      refine ⟨ri, fun e1 => ?_, fun e1 => ⟨fun e2 => ⟨⟨ha, ?_⟩, fun e3 => ?_, fun e3 => ?_⟩, fun e2 => ?_⟩⟩
      · rw [if_pos (of_decide_eq_true e1)] at ce
        have := fail 6 ce (by decide)
        exact ⟨this.1, this.2, trivial⟩
      · have := of_decide_eq_false e1; omega
      · have e1 := of_decide_eq_false e1
        rw [if_neg e1, if_pos ⟨eq_of_beq e2, nbe e3⟩] at ce
        have := fail 7 ce (by decide)
        exact ⟨this.1, this.2, trivial⟩
      · exact entered (of_decide_eq_false e1) (fun z => z.2 (ybe e3))
      · exact entered (of_decide_eq_false e1) (fun z => ne_of_beq_false e2 z.1)
    · have g14 : (at2 p i).op = 14 := eq_of_beq g14
      have hpos := pg_leave hI h g14
      refine ⟨⟨zz, by omega, by omega⟩, ?_⟩
      rw [et]
      exact on _ _ _ (w0 (.inl g14)) (fun q' => link_leave hL g14)
    · have g13 := ne_of_beq_false g13
      have e : (at2 p i).op = 21 := eq_of_beq g21
      refine ⟨fun z => ⟨ri, fun _ => on _ _ _ (w0 (.inr (.inl e))) (fun q' => link_same hL g13 (by omega) (.inr (.inl ⟨rfl, e, by have := of_decide_eq_true z; omega⟩))), fun y => (ne_of_beq_false y e).elim⟩, fun z => ⟨fun y => (of_decide_eq_false z (of_decide_eq_true y)).elim, fun _ => on _ _ _ (w0 (.inr (.inl e))) (fun q' => link_same hL g13 (by omega) (.inl ⟨rfl, .inr (by have := of_decide_eq_false z; omega)⟩))⟩⟩
    · have g13 := ne_of_beq_false g13
      have e : (at2 p i).op = 22 := eq_of_beq g22
      refine ⟨fun z => ⟨ri, fun y => (ne_of_beq_false g21 (eq_of_beq y)).elim, fun y => ⟨fun _ => on _ _ _ (w0 (.inr (.inr e))) (fun q' => link_same hL g13 (by omega) (.inr (.inr ⟨rfl, e, by have := of_decide_eq_true z; omega⟩))), fun x => (of_decide_eq_false x (of_decide_eq_true z)).elim⟩⟩, fun z => ⟨fun y => (of_decide_eq_false z (of_decide_eq_true y)).elim, fun _ => on _ _ _ (w0 (.inr (.inr e))) (fun q' => link_same hL g13 (by omega) (.inl ⟨rfl, .inr (by have := of_decide_eq_false z; omega)⟩))⟩⟩
    · have g13 := ne_of_beq_false g13
      have g14 := ne_of_beq_false g14
      have g21 := ne_of_beq_false g21
      have g22 := ne_of_beq_false g22
      have e := wr g13
      refine ⟨⟨by show o.length ≤ 1000; omega, hL.2.1, ri.1, ri.2⟩, fun z => ?_, fun z => ?_⟩
      · have z : restR c.conds p o (at2 p i) ≠ 0 := nbe z
        have := fail _ e.symm z
        exact ⟨this.1, this.2, trivial⟩
      · have z : restR c.conds p o (at2 p i) = 0 := ybe z
        exact on _ _ _ (e ▸ z) (fun q' => link_same hL g13 g14 (.inl ⟨rfl, .inl ⟨g21, g22⟩⟩))
  · have h : ¬ (i : Int) < p.length := of_decide_eq_false h
    have h : i = p.length := by omega
    have k4 : pwC c t = wgo c t p (p.length - i) i ws := hI.2.2.2.1
    rw [h, Nat.sub_self] at k4
    rw [k4]
    exact ⟨rfl, rfl, trivial⟩
end
theorem rprogOk : CtrOk1 F.S 52 (mkCtr (rpD small pwC)) :=
  mkCtr_paid (fn := Tryd.f52) (body := b52) (ctr := lookC r2) codOk noExt hookLow r2Ok Tryd.func52 rfl rfl rfl (rpD small pwC) 300 (fun (x : Config × Int × Unit) => [(7, rpC7 x.1 x.2.1.toNat), (16, rpC16 x.1 x.2.1.toNat)]) (show 2 ≤ Tryd.f52.ntmps by decide) (show Tryd.f52.ntmps ≤ 512 by decide) (by kernel_rfl) (fun _ _ => ⟨rfl, rfl⟩)
    (fun (x : Config × Int × Unit) hp => by
      obtain ⟨c, l, u⟩ := x
      obtain ⟨hs, h0, h1⟩ := hp
      obtain ⟨m, rfl⟩ := Int.eq_ofNat_of_zero_le h0
      exact rq_e_ok c m hs (by have : (m : Int) < c.progs.length := h1; omega))
    (fun (x : Config × Int × Unit) hp p hm s hI => by
      simp only [List.mem_cons, List.not_mem_nil, or_false] at hm
      rcases hm with rfl | rfl
      · exact rq_7_ok x.1 x.2.1.toNat s hI.1 hI.2.1 hI.2.2.1 hI.2.2.2
      · exact rq_16_ok x.1 x.2.1.toNat s.g.i s.g.w s.g.q s.o s.last s.loops hI.1 hI.2)
/-- What check tells of a config is what the document says. -/
theorem saysOk : CtrOk1 F.S 21 (mkCtr (akD small)) := asksOk pwCOk progOk rprogOk
end Go.Proofs.YtjboohjicdmidaaDoor
