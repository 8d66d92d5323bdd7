/- What lies below the mark stays as it is in an idealised run. Generic: over any program. -/
import Derived.Test.YtomlcdalhihnaaaDoorAmExecSim
namespace Go.Am

def LowH (lo : Nat) (H H' : Heap) : Prop := H.length ≤ H'.length ∧ ∀ b, b < lo → b < H.length → H'[b]? = H[b]?

theorem LowH.refl (lo : Nat) (H : Heap) : LowH lo H H := ⟨Nat.le_refl _, fun _ _ _ => rfl⟩
theorem LowH.trans {lo : Nat} {H H1 H2 : Heap} (h : LowH lo H H1) (k : LowH lo H1 H2) : LowH lo H H2 :=
  ⟨Nat.le_trans h.1 k.1, fun b h1 h2 => (k.2 b h1 (Nat.lt_of_lt_of_le h2 h.1)).trans (h.2 b h1 h2)⟩
theorem LowH.set {lo : Nat} {H : Heap} {b : Nat} {x : Option ABlk} (h : lo ≤ b) : LowH lo H (H.set b x) :=
  ⟨by simp, fun i h1 _ => by rw [List.getElem?_set, if_neg (by omega)]⟩
theorem LowH.append {lo : Nat} (H k : Heap) : LowH lo H (H ++ k) := ⟨by simp, fun b _ h => List.getElem?_append_left h⟩

def CallLow (call : CallF) : Prop := ∀ lo f args H r H', call lo f args H = some (r, H') → LowH lo H H'
def RecLow (rec : ExecF) : Prop := ∀ lo c ρ H x ρ' H', rec lo c ρ H = some (x, ρ', H') → LowH lo H H'

theorem mapUpdateA_low {P : Program} {lo : Nat} {t : TypeId} {H H' : Heap} {m k y : AVal} (h : mapUpdateA P lo t H m k y = some H') : LowH lo H H' := by
  unfold mapUpdateA at h
  (repeat' split at h) <;> first
    | (cases h; done)
    | (simp only [Option.some.injEq] at h
       subst h
       exact LowH.set (by assumption))

theorem storeA_low {P : Program} {lo : Nat} {t : TypeId} {H H' : Heap} {x v : AVal} (h : storeA P lo t H x v = some H') : LowH lo H H' := by
  unfold storeA at h
  split at h
  · split at h
    · split at h
      · rename_i hc
        simp only [Option.some.injEq] at h
        subst h
        exact LowH.set hc.1
      · cases h
    · cases h
  · cases h

theorem appendA_low {P : Program} {lo : Nat} {t u : TypeId} {H H' : Heap} {s x v : AVal} (h : appendA P lo t u H s x = some (v, H')) : LowH lo H H' := by
  unfold appendA at h
  (repeat' split at h) <;> first
    | (cases h; done)
    | (simp only at h; cases h; done)
    | (simp only at h
       (repeat' split at h) <;> first
        | (cases h; done)
        | (simp only [Option.some.injEq, Prod.mk.injEq] at h
           obtain ⟨_, rfl⟩ := h
           first
            | exact LowH.refl _ _
            | exact LowH.append _ _
            | exact LowH.set (And.left (by assumption))
            | exact LowH.trans (LowH.set (And.left (by assumption))) (LowH.append _ _)))

theorem effA_low {S : AStat} {call : CallF} (hC : CallLow call) {lo : Nat} {ρ : List AVal} {H H' : Heap} {op : Op} {v : AVal} (h : effA S call lo ρ H op = some (v, H')) : LowH lo H H' := by
  unfold effA at h
  split at h
  · rw [Option.map_eq_some_iff] at h
    obtain ⟨H2, h1, h2⟩ := h
    simp only [Prod.mk.injEq] at h2
    obtain ⟨_, rfl⟩ := h2
    exact storeA_low h1
  · rw [Option.map_eq_some_iff] at h
    obtain ⟨H2, h1, h2⟩ := h
    simp only [Prod.mk.injEq] at h2
    obtain ⟨_, rfl⟩ := h2
    exact mapUpdateA_low h1
  · rw [Option.map_eq_some_iff] at h
    obtain ⟨H2, h1, h2⟩ := h
    simp only [Prod.mk.injEq] at h2
    obtain ⟨_, rfl⟩ := h2
    exact mapUpdateA_low h1
  · split at h
    · exact appendA_low h
    · cases h
  · split at h
    · split at h
      · simp only [Option.some.injEq, Prod.mk.injEq] at h
        obtain ⟨_, rfl⟩ := h
        exact LowH.refl _ _
      · exact hC _ _ _ _ _ _ h
    · cases h
  · split at h
    · split at h
      · exact hC _ _ _ _ _ _ h
      · split at h
        · rw [Option.map_eq_some_iff] at h
          obtain ⟨_, _, h2⟩ := h
          simp only [Prod.mk.injEq] at h2
          obtain ⟨_, rfl⟩ := h2
          exact LowH.refl _ _
        · cases h
    · cases h
  · cases h

theorem opA_low {S : AStat} {call : CallF} (hC : CallLow call) {lo : Nat} {ρ : List AVal} {H H' : Heap} {o : Oper} {v : AVal} (h : opA S call lo ρ H o = some (v, H')) : LowH lo H H' := by
  unfold opA at h
  split at h
  · simp only [Option.some.injEq, Prod.mk.injEq] at h
    obtain ⟨_, rfl⟩ := h
    exact LowH.refl _ _
  · split at h
    · simp only [Option.some.injEq, Prod.mk.injEq] at h
      obtain ⟨_, rfl⟩ := h
      exact LowH.append _ _
    · exact effA_low hC h

theorem opsA_low {S : AStat} {call : CallF} (hC : CallLow call) {lo : Nat} {ops : List Oper} : ∀ {l : List Oper} {ρ ρ' : List AVal} {H H' : Heap}, opsA S call lo ops l ρ H = some (ρ', H') → LowH lo H H'
  | [], ρ, ρ', H, H', h => by
    simp only [opsA, Option.some.injEq, Prod.mk.injEq] at h
    obtain ⟨_, rfl⟩ := h
    exact LowH.refl _ _
  | o :: l, ρ, ρ', H, H', h => by
    simp only [opsA] at h
    split at h
    · cases h
    · exact opsA_low hC h
    · split at h
      · cases h
      · rename_i h1
        exact (opA_low hC h1).trans (opsA_low hC h)

theorem hide_low (lo : Nat) : ∀ (bs : List Nat) (H : Heap), (∀ b ∈ bs, lo ≤ b) → LowH lo H (hide H bs)
  | [], H, _ => LowH.refl _ _
  | b :: bs, H, h => (LowH.set (h b (by simp))).trans (hide_low lo bs _ fun x hx => h x (by simp [hx]))

theorem unhide_low (lo : Nat) (H0 : Heap) : ∀ (bs : List Nat) (H : Heap), (∀ b ∈ bs, lo ≤ b) → LowH lo H (unhide H0 H bs)
  | [], H, _ => LowH.refl _ _
  | b :: bs, H, h => (LowH.set (h b (by simp))).trans (unhide_low lo H0 bs _ fun x hx => h x (by simp [hx]))

theorem hidden_le {ops : Array Oper} {B : List Nat} {n0 k b : Nat} (h : b ∈ hidden ops B n0 k) : n0 ≤ b := by
  simp only [hidden, List.mem_map] at h
  obtain ⟨j, _, rfl⟩ := h
  omega

theorem drawGo_low {S : AStat} {call : CallF} (hC : CallLow call) {lo n0 : Nat} (hlo : lo ≤ n0) {ops : Array Oper} {B : List Nat} : ∀ {l : List Oper} {k : Nat} {ρ : List AVal} {H : Heap} {r : DrawOut}, drawGo S call lo n0 ops B l k ρ H = some r → LowH lo H r.H
  | [], k, ρ, H, r, h => by
    simp only [drawGo, Option.some.injEq] at h
    subst h
    exact LowH.refl _ _
  | o :: l, k, ρ, H, r, h => by
    have hh : ∀ b ∈ hidden ops B n0 k, lo ≤ b := fun b hb => Nat.le_trans hlo (hidden_le hb)
    simp only [drawGo] at h
    split at h
    · cases h
    · exact drawGo_low hC hlo h
    · split at h
      · split at h
        · cases h
        · split at h
          · exact (LowH.set (by omega)).trans (drawGo_low hC hlo h)
          · cases h
      · split at h
        · split at h
          · cases h
          · rename_i v H1 h1
            split at h
            · split at h
              · cases h
              · rename_i r1 h2
                simp only [Option.some.injEq] at h
                subst h
                have h3 : LowH lo _ r1.H := drawGo_low hC hlo h2
                exact (((hide_low lo _ H hh).trans (effA_low hC h1)).trans (unhide_low lo H _ H1 hh)).trans h3
            · cases h
        · split at h
          · cases h
          · split at h
            · cases h
            · rename_i r1 h2
              split at h <;>
              · simp only [Option.some.injEq] at h
                subst h
                have h3 : LowH lo _ r1.H := drawGo_low hC hlo h2
                exact h3

theorem drawA_low {S : AStat} {call : CallF} (hC : CallLow call) {lo : Nat} {ops : Array Oper} {ρ ρ' : List AVal} {H H' : Heap} (h : drawA S call lo ops ρ H = some (ρ', H')) : LowH lo H H' := by
  unfold drawA at h
  simp only at h
  split at h
  · rename_i hc
    simp only [Bool.and_eq_true, decide_eq_true_eq] at hc
    split at h
    · cases h
    · rename_i r hr
      split at h
      · simp only [Option.some.injEq, Prod.mk.injEq] at h
        obtain ⟨_, rfl⟩ := h
        have := drawGo_low hC hc.2 hr
        split at this
        · exact (LowH.append _ _).trans this
        · exact this
      · cases h
  · cases h

def HookLow (S : AStat) : Prop := ∀ f hk, S.hook f = some hk → ∀ lo args H r H', hk lo args H = some (r, H') → LowH lo H H'

theorem callA_low {S : AStat} (hS : HookLow S) {rec : ExecF} (hR : RecLow rec) : CallLow (callA S rec) := by
  intro lo f args H r H' h
  unfold callA at h
  split at h
  · rename_i hk hhk
    exact hS f hk hhk _ _ _ _ _ h
  · split at h
    · cases h
    · split at h
      · cases h
      · split at h
        · cases h
        · cases h
        · rename_i h1
          split at h
          · cases h
          · unfold finish at h
            split at h
            · rename_i hp
              simp only [Option.some.injEq, Prod.mk.injEq] at h
              obtain ⟨_, rfl⟩ := h
              have := hR _ _ _ _ _ _ _ h1
              rw [hp] at this
              exact this
            · rw [Option.map_eq_some_iff] at h
              obtain ⟨_, _, h2⟩ := h
              simp only [Prod.mk.injEq] at h2
              obtain ⟨_, rfl⟩ := h2
              exact LowH.refl _ _
            · rename_i hp
              simp only [Option.some.injEq, Prod.mk.injEq] at h
              obtain ⟨_, rfl⟩ := h
              have := hR _ _ _ _ _ _ _ h1
              rw [hp] at this
              exact ⟨this.1, fun b hb hb2 => this.2 b (by simp only [Pol.lo]; omega) hb2⟩

/-- Of a call that makes its own all that was stays. -/
theorem callA_fresh {S : AStat} {rec : ExecF} (hR : RecLow rec) {lo : Nat} {f : FuncId} {args : List AVal} {H H' : Heap} {r : AVal} (hh : (S.hook f).isNone = true) (hp : S.pol f = .fresh) (h : callA S rec lo f args H = some (r, H')) :
    H.length ≤ H'.length ∧ ∀ b, b < H.length → H'[b]? = H[b]? := by
  unfold callA at h
  split at h
  · rename_i hk hhk
    rw [hhk] at hh
    cases hh
  · split at h
    · cases h
    · split at h
      · cases h
      · split at h
        · cases h
        · cases h
        · rename_i h1
          split at h
          · cases h
          · rw [hp] at h h1
            simp only [finish, Option.some.injEq, Prod.mk.injEq] at h
            obtain ⟨_, rfl⟩ := h
            have := hR _ _ _ _ _ _ _ h1
            exact ⟨this.1, fun b hb => this.2 b (by simp only [Pol.lo]; omega) hb⟩

theorem stepA_low {S : AStat} (hS : HookLow S) {rec : ExecF} (hR : RecLow rec) : RecLow (stepA S rec) := by
  intro lo c ρ H x ρ' H' h
  unfold stepA at h
  split at h
  · simp only [Option.some.injEq, Prod.mk.injEq] at h; obtain ⟨_, _, rfl⟩ := h; exact LowH.refl _ _
  · simp only [Option.some.injEq, Prod.mk.injEq] at h; obtain ⟨_, _, rfl⟩ := h; exact LowH.refl _ _
  · simp only [Option.some.injEq, Prod.mk.injEq] at h; obtain ⟨_, _, rfl⟩ := h; exact LowH.refl _ _
  · simp only [Option.some.injEq, Prod.mk.injEq] at h; obtain ⟨_, _, rfl⟩ := h; exact LowH.refl _ _
  · split at h
    · rename_i h1
      exact (hR _ _ _ _ _ _ _ h1).trans (hR _ _ _ _ _ _ _ h)
    · exact hR _ _ _ _ _ _ _ h
  · split at h
    · exact hR _ _ _ _ _ _ _ h
    · exact hR _ _ _ _ _ _ _ h
    · cases h
  · split at h
    · rename_i h1
      split at h <;>
      · simp only [Option.some.injEq, Prod.mk.injEq] at h
        obtain ⟨_, _, rfl⟩ := h
        exact hR _ _ _ _ _ _ _ h1
    · exact hR _ _ _ _ _ _ _ h
  · split at h
    · rename_i h1
      exact (hR _ _ _ _ _ _ _ h1).trans (hR _ _ _ _ _ _ _ h)
    · exact hR _ _ _ _ _ _ _ h
  · split at h
    · rw [Option.map_eq_some_iff] at h
      obtain ⟨⟨a, b⟩, h1, h2⟩ := h
      simp only [Prod.mk.injEq] at h2
      obtain ⟨_, _, rfl⟩ := h2
      exact drawA_low (callA_low hS hR) h1
    · rw [Option.map_eq_some_iff] at h
      obtain ⟨⟨a, b⟩, h1, h2⟩ := h
      simp only [Prod.mk.injEq] at h2
      obtain ⟨_, _, rfl⟩ := h2
      exact opsA_low (callA_low hS hR) h1
  · cases h

theorem execA_low {S : AStat} (hS : HookLow S) : ∀ n, RecLow (execA S n)
  | 0 => fun _ _ _ _ _ _ _ h => by cases h
  | n + 1 => stepA_low hS (execA_low hS n)

end Go.Am
