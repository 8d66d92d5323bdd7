/- That a region whose order is open keeps to the idealised one, in whatever order: the whole. Generic: over any program. -/
import Derived.Test.YtomlcdalhihnaaaDoorAmDraw4
namespace Go.Am
set_option linter.unusedVariables false
open Go.RowKit
variable {S : AStat} {call : CallF} {lo n0 : Nat} {ops : Array Oper} {B : List Nat} {reads : List (Nat × Nat)} {touches : List (Nat × Option (List Nat))} {ρs : Nat → List AVal} {Hs : Nat → Heap}
variable {c0 c : Cx} {H0 : Heap}

theorem quiet_eff {S : AStat} {ρ : List AVal} {H : Heap} {op : Op} (h : isEffB op = true) : quietA S ρ H op = none ∧ newA S ρ op = none := by
  cases op <;> simp only [isEffB] at h <;> first
    | (cases h; done)
    | exact ⟨rfl, rfl⟩
    | (rename_i cl
       obtain ⟨callee, args, ts⟩ := cl
       cases callee with
       | value f => exact ⟨rfl, rfl⟩
       | invoke r m => exact ⟨rfl, rfl⟩
       | builtin b => cases b <;> first | exact ⟨rfl, rfl⟩ | (simp at h; done))

theorem reads_dom {S : AStat} {c : Cx} {ρ : List AVal} {a : Act} {op : Op} {b : Nat} (hev : EvOn S c ρ a op.operands) (h : readsA S ρ op = some b) : c.ι b ≠ none := by
  have key : ∀ x ∈ op.operands, blkOf (evalA S ρ x) = some b → c.ι b ≠ none := by
    intro x hx hb
    have := hev x hx
    cases he : evalA S ρ x <;> rw [he] at hb this <;> simp only [blkOf, Option.some.injEq] at hb <;> first | (cases hb; done) | skip
    · subst hb
      simp only [V] at this
      obtain ⟨B, base, h1, _⟩ := this
      rw [h1]; simp
    · subst hb
      simp only [V] at this
      obtain ⟨B, h1, _⟩ := this
      rw [h1]; simp
  unfold readsA at h
  split at h
  · exact key _ (by simp [Op.operands]) h
  · exact key _ (by simp [Op.operands]) h
  · exact key _ (by simp [Op.operands]) h
  · rename_i s d x
    have := hev x (by simp [Op.operands])
    cases he : evalA S ρ x <;> rw [he] at h this <;> simp only [slBlk, Option.some.injEq] at h <;> first | (cases h; done) | skip
    subst h
    simp only [V] at this
    obtain ⟨B, base, k, o, h1, _⟩ := this
    rw [h1]; simp
  · split at h
    · rename_i x hx
      split at h
      · rename_i b' e
        refine key x (by simp [Op.operands, Call.operands]; exact Array.mem_of_getElem? hx) ?_
        rw [e]
        exact h
      · cases h
    · cases h
  · cases h

/-- One step, whichever is ready. -/
theorem draw_step (hS : StatOk S) (hC : CallOk S call) (T : Tra S call lo n0 ops B reads touches ρs Hs) (hlo : lo ≤ n0) {D : Nat → Bool} {tE : Nat} {a : Act} (I : Inv S lo n0 ops ρs Hs c0 H0 D tE c a) {i : Nat} {o : Oper} (hr : Ready ops D i o)
    {K : Act → World → Prop} {Q : Exit → Act → World → Prop} (hK : ∀ tE' c' a', Inv S lo n0 ops ρs Hs c0 H0 (fun x => D x || x == i) tE' c' a' → K a' c'.w) : wpOp S.P ops Q i K a c.w := by
  have hev := I.evOn T hr
  unfold wpOp
  rw [hr.op]
  simp only
  cases T.step i o hr.op with
  | skip hg hρ hH =>
    have hw := I.guard T hr hg
    rw [if_neg (by rw [hw]; simp)]
    cases he : effAt ops i with
    | true => exact hK _ _ _ (I.skipEff T hr he hH (undef_V c) hρ hlo)
    | false =>
      have hn : newW S ops ρs i = false := by simp [newW, hr.op, hg]
      exact hK _ _ _ (I.calm T hr he hn (undef_V c) hρ)
  | new hg hnb blk mk hnew hd hρ hH =>
    have hw := I.guard T hr hg
    rw [if_pos hw]
    have hn : newW S ops ρs i = true := by simp [newW, hr.op, hg, hnb]
    obtain ⟨obj, u, h1, h2⟩ := (newA_sim o hev hnew).run
    refine .inl ?_
    unfold Oper.wp
    rw [h1]
    exact hK _ _ _ (I.newStep T hr hn hd hH hρ h2)
  | eff hg hnb heb v H1 heff hl hρ hH ht =>
    have hw := I.guard T hr hg
    rw [if_pos hw]
    have he : effAt ops i = true := by simp [effAt, hr.op, heb]
    obtain ⟨hR, hfin⟩ := I.effStep T hr he hlo
    refine .inl (opA_sim hS hC (lo := lo) hR I.glob o hev (v := v) (H' := H1) ?_ ?_)
    · unfold opA
      obtain ⟨q1, q2⟩ := quiet_eff (S := S) (ρ := ρs i) (H := hide (Hs i) (hidden ops B n0 i)) heb
      rw [q1, q2]
      exact heff
    · intro c' u g1 g2 g3 g4
      exact hK _ _ _ (hfin v u H1 c' hH hρ g1 g2 g3 g4)
  | quiet hg hnb heb v hq hρ hH hrd =>
    have hw := I.guard T hr hg
    rw [if_pos hw]
    have he : effAt ops i = false := by simp [effAt, hr.op, heb]
    have hn : newW S ops ρs i = false := by simp [newW, hr.op, hnb]
    have hq' : quietA S (ρs i) (HD S ops ρs Hs n0 D tE) o.op = some v := by
      rw [quiet_local (H := Hs i)]
      · exact hq
      · intro b hb
        obtain ⟨blk, hlive⟩ := quiet_live hq hb
        rw [I.seen T hr he hn (hrd b hb) hlive (reads_dom hev hb), hlive]
    obtain ⟨u, h1, h2⟩ := quietA_sim I.rel o hev hq'
    refine .inl ?_
    unfold Oper.wp
    rw [h1]
    exact hK _ _ _ (I.calm T hr he hn h2 hρ)

theorem count_set : ∀ (l : List Bool) (i : Nat), l[i]? = some false → ((l.set i true).filter id).length = (l.filter id).length + 1
  | [], i, h => by simp at h
  | b :: l, 0, h => by
    simp at h
    subst h
    simp
  | b :: l, i + 1, h => by
    simp only [List.getElem?_cons_succ] at h
    simp only [List.set_cons_succ, List.filter_cons]
    split
    · simp only [List.length_cons, count_set l i h]
    · exact count_set l i h

theorem mem_ready {listed : Array Bool} {i : Nat} : i ∈ Region.ready .any ops listed ↔ ∃ o, ops[i]? = some o ∧ listed.getD i true = false ∧ ∀ e ∈ o.after.toList, Region.binds .any e = true → listed.getD e.on false = true := by
  unfold Region.ready
  rw [List.mem_filter, List.mem_range]
  constructor
  · rintro ⟨h1, h2⟩
    obtain ⟨o, ho⟩ := op_at h1
    rw [ho] at h2
    simp only [Bool.and_eq_true, Bool.not_eq_true', Option.map_some, Option.getD_some, ← Array.all_toList, List.all_eq_true, Bool.or_eq_true] at h2
    refine ⟨o, ho, h2.1, fun e he hb => ?_⟩
    rcases h2.2 e he with h | h
    · rw [hb] at h; cases h
    · exact h
  · rintro ⟨o, ho, h1, h2⟩
    refine ⟨(Array.getElem?_eq_some_iff.1 ho).1, ?_⟩
    rw [ho]
    simp only [Bool.and_eq_true, Bool.not_eq_true', Option.map_some, Option.getD_some, ← Array.all_toList, List.all_eq_true, Bool.or_eq_true]
    refine ⟨h1, fun e he => ?_⟩
    cases hb : Region.binds .any e with
    | false => exact .inl rfl
    | true => exact .inr (h2 e he hb)

theorem all_done (T : Tra S call lo n0 ops B reads touches ρs Hs) {listed : Array Bool} (hs : listed.size = ops.size) (h : Region.ready .any ops listed = []) : ∀ i, i < ops.size → listed.getD i false = true := by
  intro i
  induction i using Nat.strongRecOn with
  | _ i ih =>
    intro hi
    cases hl : listed.getD i false with
    | true => rfl
    | false =>
      obtain ⟨o, ho⟩ := op_at hi
      have : i ∈ Region.ready .any ops listed := by
        refine mem_ready.2 ⟨o, ho, ?_, fun e he hb => ?_⟩
        · rw [Array.getD_eq_getD_getElem?] at hl ⊢
          rw [Array.getElem?_eq_getElem (by omega)] at hl ⊢
          exact hl
        · have hlt := T.pair.edge i o ho e he hb
          exact ih e.on hlt (by omega)
      rw [h] at this
      cases this

theorem Vs_of_get {c : Cx} : ∀ {as : List AVal} {vs : List Value}, as.length = vs.length → (∀ s, V c (as.getD s undefA) (vs.getD s undef)) → Vs c as vs
  | [], [], _, _ => by simp [Vs]
  | [], _ :: _, h, _ => by simp at h
  | _ :: _, [], h, _ => by simp at h
  | a :: as, v :: vs, h, hv => by
    simp only [Vs]
    exact ⟨v, vs, rfl, by simpa using hv 0, Vs_of_get (by simpa using h) fun s => by simpa using hv (s + 1)⟩

/-- All is done. -/
theorem Inv.done (T : Tra S call lo n0 ops B reads touches ρs Hs) {D : Nat → Bool} {tE : Nat} {a : Act} (I : Inv S lo n0 ops ρs Hs c0 H0 D tE c a) (hall : ∀ i, i < ops.size → D i = true) (hlo : lo ≤ n0) :
    Post lo c0 H0 .normal (ρs ops.size) (Hs ops.size) .normal a c.w := by
  have hno : ∀ k, k < ops.size → effAt ops k = true → k < tE := fun k hk he => I.eff k (hall k hk) he
  obtain ⟨hlen, hst⟩ := I.still T (Nat.le_refl _) I.tEn hno
  have hnlt : ∀ b, isN S ops ρs n0 b = true → b - n0 < ops.size := fun b hN => (newW_new (isN_spec hN).2).2
  have htEn := I.tEn
  have eqt : ∀ b, b < (Hs tE).length → (Hs (tm S ops ρs n0 tE b))[b]? = (Hs ops.size)[b]? := by
    intro b hb
    refine (hst b _ (by unfold tm; split <;> omega) ?_ hb ?_).symm
    · unfold tm
      split
      · rename_i hN; have := hnlt b hN; omega
      · exact I.tEn
    · intro hN
      unfold tm
      rw [if_pos hN]
      omega
  have liv : ∀ (b : Nat) (blk : ABlk), (Hs ops.size)[b]? = some (some blk) ↔ (HD S ops ρs Hs n0 D tE)[b]? = some (some blk) := by
    intro b blk
    rw [HD_live]
    constructor
    · intro h
      have hb : b < (Hs tE).length := by have := (List.getElem?_eq_some_iff.1 h).1; omega
      exact ⟨hb, fun hN => hall _ (hnlt b hN), by rw [eqt b hb]; exact h⟩
    · rintro ⟨h1, _, h3⟩
      rw [← eqt b h1]; exact h3
  have hl2 : (HD S ops ρs Hs n0 D tE).length = (Hs ops.size).length := by rw [HD_length, hlen]
  refine ⟨rfl, I.defers, c, rfl, I.rel.sub (fun b blk h => (liv b blk).1 h) (by omega), I.tr.trans (Tr.sub fun b blk h => (liv b blk).1 h), ?_, ?_⟩
  · exact ⟨fun b blk hb h => ⟨(liv b blk).2 (I.low.low b blk hb h).1, (I.low.low b blk hb h).2⟩, I.low.dom, by have := I.low.len; omega⟩
  · refine Vs_of_get ?_ ?_
    · have h1 := T.len _ (Nat.le_refl _)
      have h2 := I.size
      have h3 : a.tmps.toList.length = a.tmps.size := Array.length_toList
      omega
    · intro s
      obtain ⟨t, h1, h2, h3, h4⟩ := I.slots s
      have := T.slot s (ops.size - t) t (by omega) (fun j hj1 hj2 hd => by
        have := h3 j (hall j (by omega)) hd
        omega)
      rw [show t + (ops.size - t) = ops.size by omega] at this
      rw [this]
      simpa [Array.getD_eq_getD_getElem?, List.getD_eq_getElem?_getD] using h4

theorem draw_any (hS : StatOk S) (hC : CallOk S call) (T : Tra S call lo n0 ops B reads touches ρs Hs) (hlo : lo ≤ n0) {Q : Exit → Act → World → Prop} (hQ : ∀ e a w, Post lo c0 H0 .normal (ρs ops.size) (Hs ops.size) e a w → Q e a w) :
    ∀ (fuel : Nat) (listed : Array Bool) (c : Cx) (a : Act) (tE : Nat), listed.size = ops.size → (listed.toList.filter id).length + fuel = ops.size → Inv S lo n0 ops ρs Hs c0 H0 (fun i => listed.getD i false) tE c a →
      wpAny S.P .any ops Q fuel listed a c.w
  | 0, listed, c, a, tE, hs, hc, I => by
    have hall : ∀ i, i < ops.size → listed.getD i false = true := by
      have : listed.toList.filter id = listed.toList := by
        refine (List.filter_sublist).eq_of_length ?_
        have h3 : listed.toList.length = listed.size := Array.length_toList
        omega
      intro i hi
      rw [List.filter_eq_self] at this
      have hm : listed[i] ∈ listed.toList := by simp
      have := this _ hm
      rw [Array.getD_eq_getD_getElem?, Array.getElem?_eq_getElem (by omega)]
      simpa using this
    refine ⟨?_, hQ _ _ _ (I.done T hall hlo)⟩
    cases hrd : Region.ready .any ops listed with
    | nil => rfl
    | cons i rest =>
      have : i ∈ Region.ready .any ops listed := by rw [hrd]; exact List.mem_cons_self ..
      obtain ⟨o, ho, h1, _⟩ := mem_ready.1 this
      have hi := (Array.getElem?_eq_some_iff.1 ho).1
      have := hall i hi
      rw [Array.getD_eq_getD_getElem?, Array.getElem?_eq_getElem (by omega)] at this h1
      simp only [Option.getD_some] at this h1
      rw [h1] at this
      cases this
  | fuel + 1, listed, c, a, tE, hs, hc, I => by
    refine ⟨fun hrd => hQ _ _ _ (I.done T (all_done T hs hrd) hlo), ?_⟩
    intro i hi
    obtain ⟨o, ho, h1, h2⟩ := mem_ready.1 hi
    have hin := (Array.getElem?_eq_some_iff.1 ho).1
    have hlf : listed[i]? = some false := by
      rw [Array.getD_eq_getD_getElem?, Array.getElem?_eq_getElem (by omega)] at h1
      simp only [Option.getD_some] at h1
      rw [Array.getElem?_eq_getElem (by omega), h1]
    have hr : Ready ops (fun i => listed.getD i false) i o := ⟨ho, by simp [Array.getD_eq_getD_getElem?, hlf], h2⟩
    refine draw_step hS hC T hlo I hr ?_
    intro tE' c' a' I'
    refine draw_any hS hC T hlo hQ fuel _ c' a' tE' (by simp [hs]) ?_ ?_
    · rw [Array.toList_setIfInBounds, count_set _ _ (by simpa using hlf)]
      omega
    · have : (fun x => (listed.setIfInBounds i true).getD x false) = (fun x => listed.getD x false || x == i) := by
        funext x
        simp only [Array.getD_eq_getD_getElem?, Array.getElem?_setIfInBounds]
        by_cases hx : i = x
        · subst hx
          rw [if_pos rfl, if_pos (by omega)]
          simp
        · rw [if_neg hx]
          have : (x == i) = false := by simp; omega
          simp [this]
      rw [this]
      exact I'

theorem drawA_sim (hS : StatOk S) (hC : CallOk S call) (hst : CallStill S call) {id : Nat} {ops : Array Oper} {ρ ρ' : List AVal} {H H' : Heap} {a : Act} (h : drawA S call lo ops ρ H = some (ρ', H')) (hR : Rel c H) (hG : GlobOk S c) (hρ : Vs c ρ a.tmps.toList) (hd : a.defers = []) :
    (Code.region id ops true).wp S.P (Post lo c H .normal ρ' H') a c.w := by
  unfold drawA at h
  simp only at h
  split at h
  case isFalse => cases h
  rename_i hok
  simp only [Bool.and_eq_true, decide_eq_true_eq] at hok
  obtain ⟨hok, hlo⟩ := hok
  split at h
  · cases h
  · rename_i r hgo
    split at h
    case isFalse => cases h
    rename_i hap
    simp only [Option.some.injEq, Prod.mk.injEq] at h
    obtain ⟨rfl, rfl⟩ := h
    obtain ⟨ρs, Hs, e1, e2, e3, e4, hstep⟩ := drawGo_trace ops.toList 0 _ _ r hgo (fun j => by simp) (by simp)
    have hpair := regionOk_spec hok
    have hlen0 : H.length ≤ (Hs 0).length := by rw [e2]; split <;> simp
    have T : Tra S call lo H.length ops (befs ops.toList []) r.reads r.touches ρs Hs := by
      refine ⟨fun j o ho => hstep j o (Nat.zero_le _) ho, hpair, befs_ok ops, fun i k hk => befs_lt hpair.edge ops.toList [] (fun j => by simp) (fun i k h => by simp at h) i k hk, hap, hst, ?_⟩
      intro m hm hn
      have hany : ops.any (fun o => isNewB o.op) = true := by
        rw [Array.any_eq_true]
        refine ⟨m, hm, ?_⟩
        simpa [newAt, hm] using hn
      rw [e2, if_pos hany]
      simp
      exact hm
    -- nothing that lives at first is new
    have hliv0 : ∀ (b : Nat) (blk : ABlk), (Hs 0)[b]? = some (some blk) ↔ H[b]? = some (some blk) := by
      intro b blk
      rw [e2]
      split
      · rcases Nat.lt_or_ge b H.length with h1 | h1
        · rw [List.getElem?_append_left h1]
        · rw [List.getElem?_append_right h1, List.getElem?_eq_none h1, List.getElem?_replicate]
          split <;> simp
      · exact Iff.rfl
    have hfr : ∀ m, c.ι (H.length + m) = none := fun m => hR.fresh _ (by omega)
    let c1 : Cx := { c with w := c.w.drew }
    have hdr := hR.drew
    have hliv : ∀ (b : Nat) (blk : ABlk), (HD S ops ρs Hs H.length (fun _ => false) 0)[b]? = some (some blk) ↔ H[b]? = some (some blk) := by
      intro b blk
      rw [HD_live]
      constructor
      · rintro ⟨_, h2, h3⟩
        have hN : isN S ops ρs H.length b = false := by
          cases h : isN S ops ρs H.length b with
          | false => rfl
          | true => have := h2 h; cases this
        have : tm S ops ρs H.length 0 b = 0 := by simp [tm, hN]
        rw [this] at h3
        exact (hliv0 b blk).1 h3
      · intro hb
        have hbl : b < H.length := (List.getElem?_eq_some_iff.1 hb).1
        have hN : isN S ops ρs H.length b = false := by simp [isN]; omega
        have : tm S ops ρs H.length 0 b = 0 := by simp [tm, hN]
        rw [this]
        exact ⟨by omega, fun h => (by rw [hN] at h; cases h), (hliv0 b blk).2 hb⟩
    have hHDl : (HD S ops ρs Hs H.length (fun _ => false) 0).length = (Hs 0).length := HD_length _ _
    have I : Inv S lo H.length ops ρs Hs c H (fun _ => false) 0 c1 a := by
      refine ⟨Nat.zero_le _, (fun j hj => by cases hj), .inl rfl, ?_, ?_, ?_, ?_, ?_, fun m _ _ => hfr m, hd, (fun i o _ hi => by cases hi), (fun i hi => by cases hi), hG.ext hdr.2.ext, Nat.le_refl _⟩
      · intro s
        refine ⟨0, Nat.zero_le _, .inl rfl, (fun j hj => by cases hj), ?_⟩
        rw [e1]
        have := Vs_getD (Vs_ext hdr.2.ext _ _ hρ) s
        simpa [Array.getD_eq_getD_getElem?, List.getD_eq_getElem?_getD] using this
      · rw [e1]
        have := Vs_length hρ
        simpa using this.symm
      · exact hdr.1.sub (fun b blk h => (hliv b blk).1 h) (by omega)
      · exact hdr.2.trans (Tr.sub fun b blk h => (hliv b blk).1 h)
      · exact ⟨fun b blk _ h => ⟨(hliv b blk).2 h, fun _ _ _ => rfl⟩, fun _ _ h => h, by omega⟩
    refine wp_region_any hS.mixed ?_
    have hfun : (fun i => (Array.replicate ops.size false).getD i false) = (fun _ => false) := by
      funext i
      simp only [Array.getD_eq_getD_getElem?, Array.getElem?_replicate]
      split <;> rfl
    refine draw_any (c0 := c) (H0 := H) hS hC T hlo (fun e a w hp => ?_) ops.size _ c1 a 0 (by simp) (by simp) (by rw [hfun]; exact I)
    rw [e3, e4] at hp
    exact hp

end Go.Am
