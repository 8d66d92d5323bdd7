/- That the model's operations keep to the idealised ones: arithmetic, cuts, building. Generic: over any program. -/
import Derived.Test.YtomlcdalhihnaaaDoorAmSim
import Derived.LaidEql
import Derived.Laws.StructEq
import Derived.ChangeKeysEq
namespace Go.Am
open Go.RowKit
variable {P : Program}

theorem intBin_sim {op : BinOp} {k : IntKind} {a b : Int} {r : AVal} (h : intBin op k a b = some r) (hs : op ≠ .shl ∧ op ≠ .shr) {c : Cx} (t : TypeId) (w : World) :
    ∃ u, (binOp op t (.int k a) (.int k b)).run P w = .ok u w ∧ V c r u := by
  cases op <;> simp only [intBin] at h <;> first
    | (exact absurd rfl hs.1)
    | (exact absurd rfl hs.2)
    | (simp only [Option.some.injEq] at h; subst h; exact ⟨_, by simp [binOp, Op.intArith, Op.intBits, Op.intCmp]; rfl, by simp [V]⟩)
    | (split at h
       · cases h
       · rename_i hb
         simp only [Option.some.injEq] at h
         subst h
         exact ⟨_, by simp [binOp, Op.intDiv, hb]; rfl, by simp [V]⟩)

theorem shiftA_sim {op : BinOp} {k : IntKind} {a : Int} {k' : IntKind} {b : Int} {r : AVal} (h : shiftA op k a b = some r) {c : Cx} (t : TypeId) (w : World) :
    ∃ u, (binOp op t (.int k a) (.int k' b)).run P w = .ok u w ∧ V c r u := by
  unfold shiftA at h
  split at h
  · cases h
  · rename_i hb
    cases op <;> simp only at h <;> first
      | (cases h; done)
      | (simp only [Option.some.injEq] at h; subst h; exact ⟨_, by simp [binOp, Op.shift, hb]; rfl, by simp [V]⟩)

theorem strBin_sim {op : BinOp} {x y : List UInt8} {r : AVal} (h : strBin op x y = some r) {a b : ByteArray} (ha : a.data.toList = x) (hb : b.data.toList = y) {c : Cx} (t : TypeId) (w : World) :
    ∃ u, (binOp op t (.string a) (.string b)).run P w = .ok u w ∧ V c r u := by
  subst ha hb
  have hsa : a.size = a.data.toList.length := Array.length_toList.symm
  have hsb : b.size = b.data.toList.length := Array.length_toList.symm
  cases op <;> simp only [strBin] at h <;> first
    | (cases h; done)
    | (split at h
       · cases h
       · rename_i hle
         simp only [Option.some.injEq] at h
         subst h
         refine ⟨.string (a ++ b), ?_, ?_⟩
         · simp only [binOp, Op.stringOp]
           rw [if_neg (by rw [hsa, hsb]; exact hle)]
           rfl
         · simp only [V]
           exact ⟨a ++ b, rfl, by simp⟩)
    | (simp only [Option.some.injEq] at h; subst h; exact ⟨_, by simp only [binOp, Op.stringOp, ByteArray.toList_eq]; rfl, by simp [V]⟩)

def vnk : Value → Option (NK × Bool)
  | .pointer a => some (.p, a.isNone)
  | .nilIface => some (.i, true)
  | .iface _ _ => some (.i, false)
  | .slice a _ _ => some (.s, a.isNone)
  | .nilFunc => some (.f, true)
  | .func _ _ _ => some (.f, false)
  | .map a => some (.m, a.isNone)
  | _ => none

theorem nk_sim {c : Cx} {x : AVal} {k : NK × Bool} (h : nk x = some k) {v : Value} (hv : V c x v) : vnk v = some k := by
  cases x <;> simp only [nk, Option.some.injEq] at h <;> first
    | (cases h; done)
    | (subst h
       simp only [V] at hv
       rcases v with _ | _ | _ | _ | _ | a | ⟨a, _, _⟩ | a | _ | _ | _ | _ | _ | _ | _ <;> first
        | rfl
        | (exfalso; simp at hv; done)
        | (cases a <;> simp_all [vnk]; done))

theorem equalIn_nk {t : TypeId} {k : NK} {n1 n2 : Bool} {a b : Value} (ha : vnk a = some (k, n1)) (hb : vnk b = some (k, n2)) (hn : n1 = true ∨ n2 = true) (hk : nkOk P t k = true) (d : Nat) (w : World) :
    (Op.equalIn (d + 1) t a b).run P w = .ok (n1 && n2) w := by
  have key : ∀ D, P.underlying t = some D → nkOk P t k = (match D, k with | .pointer _, .p => true | .interface _, .i => true | .slice _, .s => true | .func _ _ _, .f => true | .map _ _, .m => true | _, _ => false) := by
    intro D hD
    cases k <;> cases D <;> simp [nkOk, hD]
  cases hD : P.underlying t with
  | none => cases k <;> simp [nkOk, hD] at hk
  | some D =>
    rw [key D hD] at hk
    cases k <;> cases D <;> simp only [Bool.false_eq_true] at hk <;>
      rcases a with _ | _ | _ | _ | _ | x | ⟨x, _, _⟩ | x | _ | _ | _ | _ | _ | _ | _ <;> simp only [vnk, Option.some.injEq, Prod.mk.injEq, reduceCtorEq, false_and, true_and] at ha <;> subst ha <;>
      rcases b with _ | _ | _ | _ | _ | y | ⟨y, _, _⟩ | y | _ | _ | _ | _ | _ | _ | _ <;> simp only [vnk, Option.some.injEq, Prod.mk.injEq, reduceCtorEq, false_and, true_and] at hb <;> subst hb <;>
      first
        | (simp at hn; done)
        | (simp [Op.equalIn, run_underlying hD]; done)
        | (cases x <;> cases y <;> first | (simp at hn; done) | (simp [Op.equalIn, run_underlying hD]; done))
        | (cases x <;> first | (simp at hn; done) | (simp [Op.equalIn, run_underlying hD]; done))
        | (cases y <;> first | (simp at hn; done) | (simp [Op.equalIn, run_underlying hD]; done))

theorem eqFs_sim {c : Cx} {f : TypeId → AVal → AVal → Option Bool} {d : Nat} {w : World}
    (hf : ∀ t x y r, f t x y = some r → ∀ a b, V c x a → V c y b → (Op.equalIn d t a b).run P w = .ok r w) {xs ys : List AVal} {us vs : List Value} (hx : Vs c xs us) (hy : Vs c ys vs) :
    ∀ (fs : List Field) {r : Bool}, eqFs P f xs ys fs = some r → (Op.eqFields d us.toArray vs.toArray fs).run P w = .ok r w
  | [], r, h => by
    simp only [eqFs, Option.some.injEq] at h
    subst h
    simp [Op.eqFields]
  | fd :: fs, r, h => by
    simp only [eqFs] at h
    split at h
    · cases h
    · rename_i hn
      split at h
      · rename_i a b h1 h2
        split at h
        · rename_i r1 r2 h3 h4
          simp only [Option.some.injEq] at h
          obtain ⟨u, e1, v1⟩ := partA_sim (P := P) h1 hx w
          obtain ⟨v, e2, v2⟩ := partA_sim (P := P) h2 hy w
          have e3 := hf _ _ _ _ h3 u v v1 v2
          have e4 := eqFs_sim hf hx hy fs h4
          have hne : fd.name ≠ "_" := by simpa using hn
          subst h
          simp only [Op.eqFields]
          rw [if_pos hne]
          cases r1 <;> simp [e1, e2, e3, e4]
        · cases h
      · cases h

theorem eqIs_sim {c : Cx} {f : AVal → AVal → Option Bool} {d : Nat} {w : World} {e : TypeId}
    (hf : ∀ x y r, f x y = some r → ∀ a b, V c x a → V c y b → (Op.equalIn d e a b).run P w = .ok r w) {xs ys : List AVal} {us vs : List Value} (hx : Vs c xs us) (hy : Vs c ys vs) :
    ∀ (is : List Nat) {r : Bool}, eqIs P f e xs ys is = some r → (Op.eqItems d e (P.cellsOf e) us.toArray vs.toArray is).run P w = .ok r w
  | [], r, h => by
    simp only [eqIs, Option.some.injEq] at h
    subst h
    simp [Op.eqItems]
  | i :: is, r, h => by
    simp only [eqIs] at h
    split at h
    · rename_i a b h1 h2
      split at h
      · rename_i r1 r2 h3 h4
        simp only [Option.some.injEq] at h
        obtain ⟨u, e1, v1⟩ := partA_sim (P := P) h1 hx w
        obtain ⟨v, e2, v2⟩ := partA_sim (P := P) h2 hy w
        have e3 := hf _ _ _ h3 u v v1 v2
        have e4 := eqIs_sim hf hx hy is h4
        subst h
        simp only [szOf] at e1 e2
        simp only [Op.eqItems]
        cases r1 <;> simp [e1, e2, e3, e4]
      · cases h
    · cases h

theorem eqV_sim {c : Cx} : ∀ (k : Nat) {t : TypeId} {x y : AVal} {r : Bool}, eqV P k t x y = some r → ∀ {a b : Value}, V c x a → V c y b → ∀ {d : Nat}, k ≤ d → ∀ w : World, (Op.equalIn d t a b).run P w = .ok r w
  | 0, _, _, _, _, h, _, _, _, _, _, _, _ => by cases h
  | k + 1, t, x, y, r, h, a, b, ha, hb, d, hd, w => by
    obtain ⟨d, rfl⟩ : ∃ e, d = e + 1 := ⟨d - 1, by omega⟩
    simp only [eqV] at h
    split at h
    · rename_i hu
      split at h
      · simp only [V] at ha hb
        subst ha hb
        simp only [Option.some.injEq] at h
        subst h
        simp [Op.equalIn, run_underlying hu]
      · cases h
    · rename_i hu
      split at h
      · simp only [V] at ha hb
        subst ha hb
        split at h
        · rename_i hk
          subst hk
          simp only [Option.some.injEq] at h
          subst h
          simp [Op.equalIn, run_underlying hu]
        · cases h
      · cases h
    · rename_i hu
      split at h
      · simp only [V] at ha hb
        obtain ⟨s, rfl, rfl⟩ := ha
        obtain ⟨s', rfl, rfl⟩ := hb
        simp only [Option.some.injEq] at h
        subst h
        have := run_equalIn_string (P := P) w d t s s' hu
        rw [ByteArray.toList_eq, ByteArray.toList_eq] at this
        exact this
      · cases h
    · rename_i fs hu
      split at h
      · rename_i xs ys
        split at h
        · cases h
        · rename_i hs
          simp only [V] at ha hb
          obtain ⟨us, rfl, h1⟩ := ha
          obtain ⟨vs, rfl, h2⟩ := hb
          have hfs : P.fieldsOf t = fs := by simp [Program.fieldsOf, hu]
          have := run_equalIn_struct (P := P) w d t us.toArray vs.toArray (by rw [hfs]; exact hu) (by simpa using hs)
          rw [this, hfs]
          exact eqFs_sim (fun t x y r h a b h1 h2 => eqV_sim k h h1 h2 (by omega) w) h1 h2 _ h
      · cases h
    · rename_i n e hu
      split at h
      · rename_i xs ys
        split at h
        · rename_i hs
          simp only [V] at ha hb
          obtain ⟨us, rfl, h1⟩ := ha
          obtain ⟨vs, rfl, h2⟩ := hb
          obtain ⟨i, hi⟩ := Option.isSome_iff_exists.1 hs
          rw [run_equalIn_array w d us.toArray vs.toArray hu hi]
          exact eqIs_sim (fun x y r h a b h1 h2 => eqV_sim k h h1 h2 (by omega) w) h1 h2 _ h
        · cases h
      · cases h
    · cases h

theorem eqIface_sim {c : Cx} {t : TypeId} {x y : AVal} {r : Bool} (h : eqIface P t x y = some r) {a b : Value} (ha : V c x a) (hb : V c y b) (d : Nat) :
    (Op.equalIn (d + 2) t a b).run P c.w = .ok r c.w := by
  unfold eqIface at h
  split at h
  · rename_i u x v y
    simp only [V] at ha hb
    obtain ⟨a, rfl, ha⟩ := ha
    obtain ⟨b, rfl, hb⟩ := hb
    split at h
    · rename_i ms hu
      split at h
      · rename_i hne
        simp only [Option.some.injEq] at h
        subst h
        simp [Op.equalIn, run_underlying hu, hne]
      · rename_i hne
        have hne : u = v := by simpa using hne
        subst hne
        split at h
        · rename_i e i _ j _ hp
          split at h
          · rename_i iu ie h1 h2
            split at h
            · rename_i hc
              simp only [Option.some.injEq] at h
              simp only [V] at ha hb
              obtain ⟨B, o, _, hn, e1, rfl, _, _, _, ca, ta, g1⟩ := ha
              obtain ⟨B', o', _, _, e2, rfl, _, _, _, cb, tb, g2⟩ := hb
              by_cases hij : i = j
              · subst hij
                rw [e1] at e2
                cases e2
                have : r = true := by rw [← h]; simp
                subst this
                exact run_equalIn_iface_ptr_same c.w d _ hu hp h1 hc.1 h2
              · have : r = false := by rw [← h]; simpa using hij
                subst this
                refine run_equalIn_iface_ptr_other c.w d hu hp h1 hc.1 h2 hc.2 ?_ g1 g2
                intro e
                simp only [Addr.mk.injEq, and_true] at e
                obtain ⟨rfl, rfl⟩ := e
                have hi : i < c.θ.length := by
                  rcases Nat.lt_or_ge i c.θ.length with h | h
                  · exact h
                  · rw [List.getElem?_eq_none h] at e1; cases e1
                exact hij ((List.getElem?_inj hi hn).1 (e1.trans e2.symm))
            · cases h
          · cases h
        · cases h
    · cases h
  · cases h

theorem equalIn_sim {c : Cx} {t : TypeId} {lit : Bool} {x y : AVal} {r : Bool} (h : eqA P t lit x y = some r) {a b : Value} (ha : V c x a) (hb : V c y b) (d : Nat) :
    (Op.equalIn (d + 8) t a b).run P c.w = .ok r c.w := by
  unfold eqA at h
  split at h
  · split at h
    · rename_i p q hb'
      simp only [Option.some.injEq] at h
      subst h
      simp only [V] at ha hb
      subst ha hb
      unfold boolB at hb'
      split at hb'
      · rename_i hd
        exact run_equalIn_bool' c.w (d + 7) t p q hd
      · cases hb'
    · cases h
  · split at h
    · exact eqV_sim 8 h ha hb (by omega) c.w
    · cases h
  · exact eqIface_sim h ha hb (d + 6)
  · split at h
    · rename_i k1 n1 k2 n2 h1 h2
      split at h
      · rename_i hc
        obtain ⟨rfl, hn, hk, _⟩ := hc
        simp only [Option.some.injEq] at h
        subst h
        exact equalIn_nk (nk_sim h1 ha) (nk_sim h2 hb) hn hk (d + 7) c.w
      · cases h
    · cases h

theorem binOp_eq_other {c : Cx} {t : TypeId} {lit : Bool} {x y : AVal} {r : Bool} (h : eqA P t lit x y = some r) {a b : Value} (ha : V c x a) (hb : V c y b) :
    (binOp .eql t a b).run P c.w = .ok (.bool r) c.w ∧ (binOp .neq t a b).run P c.w = .ok (.bool (!r)) c.w := by
  have he : (Op.equal t a b).run P c.w = .ok r c.w := equalIn_sim h ha hb 9992
  unfold eqA at h
  split at h
  · simp only [V] at ha hb
    subst ha hb
    simp [binOp, he]
  · simp only [V] at ha hb
    obtain ⟨us, rfl, h1⟩ := ha
    obtain ⟨vs, rfl, h2⟩ := hb
    simp [binOp, he]
  · simp only [V] at ha hb
    obtain ⟨us, rfl, h1⟩ := ha
    obtain ⟨vs, rfl, h2⟩ := hb
    simp [binOp, he]
  · split at h
    · rename_i k1 n1 k2 n2 h1 h2
      have va := nk_sim h1 ha
      have vb := nk_sim h2 hb
      rcases a with _ | _ | _ | _ | _ | x | ⟨x, _, _⟩ | x | _ | _ | _ | _ | _ | _ | _ <;> simp only [vnk, reduceCtorEq] at va <;>
        rcases b with _ | _ | _ | _ | _ | y | ⟨y, _, _⟩ | y | _ | _ | _ | _ | _ | _ | _ <;> simp only [vnk, reduceCtorEq] at vb <;> simp [binOp, he]
    · cases h

end Go.Am
