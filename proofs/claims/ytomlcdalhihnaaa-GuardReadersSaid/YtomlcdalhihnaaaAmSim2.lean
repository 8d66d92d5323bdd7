/- That the model's operations keep to the idealised ones: arithmetic, cuts, building. Generic: over any program. -/
import Derived.Test.YtomlcdalhihnaaaAmSim
namespace Go.Am
open Go.RowKit
variable {P : Program}

theorem intBin_sim {op : BinOp} {k : IntKind} {a b : Int} {r : AVal} (h : intBin op k a b = some r) (hs : op ≠ .shl ∧ op ≠ .shr) {c : Cx} (t : TypeId) (w : World) :
    ∃ u, (binOp op t (.int k a) (.int k b)).run P w = .ok u w ∧ V c r u := by
  cases op <;> simp only [intBin] at h <;> first
    | (exact absurd rfl hs.1)
    | (exact absurd rfl hs.2)
    | (simp only [Option.some.injEq] at h; subst h; exact ⟨_, by simp [binOp, Op.intArith, Op.intBits, Op.intCmp]; rfl, by simp [V]⟩)
    | (split at h
       · cases h
       · rename_i hb
         simp only [Option.some.injEq] at h
         subst h
         exact ⟨_, by simp [binOp, Op.intDiv, hb]; rfl, by simp [V]⟩)

theorem shiftA_sim {op : BinOp} {k : IntKind} {a : Int} {k' : IntKind} {b : Int} {r : AVal} (h : shiftA op k a b = some r) {c : Cx} (t : TypeId) (w : World) :
    ∃ u, (binOp op t (.int k a) (.int k' b)).run P w = .ok u w ∧ V c r u := by
  unfold shiftA at h
  split at h
  · cases h
  · rename_i hb
    cases op <;> simp only at h <;> first
      | (cases h; done)
      | (simp only [Option.some.injEq] at h; subst h; exact ⟨_, by simp [binOp, Op.shift, hb]; rfl, by simp [V]⟩)

theorem strBin_sim {op : BinOp} {x y : List UInt8} {r : AVal} (h : strBin op x y = some r) {a b : ByteArray} (ha : a.data.toList = x) (hb : b.data.toList = y) {c : Cx} (t : TypeId) (w : World) :
    ∃ u, (binOp op t (.string a) (.string b)).run P w = .ok u w ∧ V c r u := by
  subst ha hb
  have hsa : a.size = a.data.toList.length := Array.length_toList.symm
  have hsb : b.size = b.data.toList.length := Array.length_toList.symm
  cases op <;> simp only [strBin] at h <;> first
    | (cases h; done)
    | (split at h
       · cases h
       · rename_i hle
         simp only [Option.some.injEq] at h
         subst h
         refine ⟨.string (a ++ b), ?_, ?_⟩
         · simp only [binOp, Op.stringOp]
           rw [if_neg (by rw [hsa, hsb]; exact hle)]
           rfl
         · simp only [V]
           exact ⟨a ++ b, rfl, by simp⟩)
    | (simp only [Option.some.injEq] at h; subst h; exact ⟨_, by simp only [binOp, Op.stringOp, ByteArray.toList_eq]; rfl, by simp [V]⟩)

def vnk : Value → Option (NK × Bool)
  | .pointer a => some (.p, a.isNone)
  | .nilIface => some (.i, true)
  | .iface _ _ => some (.i, false)
  | .slice a _ _ => some (.s, a.isNone)
  | .nilFunc => some (.f, true)
  | .func _ _ _ => some (.f, false)
  | .map a => some (.m, a.isNone)
  | _ => none

theorem nk_sim {c : Cx} {x : AVal} {k : NK × Bool} (h : nk x = some k) {v : Value} (hv : V c x v) : vnk v = some k := by
  cases x <;> simp only [nk, Option.some.injEq] at h <;> first
    | (cases h; done)
    | (subst h
       simp only [V] at hv
       rcases v with _ | _ | _ | _ | _ | a | ⟨a, _, _⟩ | a | _ | _ | _ | _ | _ | _ | _ <;> first
        | rfl
        | (exfalso; simp at hv; done)
        | (cases a <;> simp_all [vnk]; done))

theorem equalIn_nk {t : TypeId} {k : NK} {n1 n2 : Bool} {a b : Value} (ha : vnk a = some (k, n1)) (hb : vnk b = some (k, n2)) (hn : n1 = true ∨ n2 = true) (hk : nkOk P t k = true) (d : Nat) (w : World) :
    (Op.equalIn (d + 1) t a b).run P w = .ok (n1 && n2) w := by
  have key : ∀ D, P.underlying t = some D → nkOk P t k = (match D, k with | .pointer _, .p => true | .interface _, .i => true | .slice _, .s => true | .func _ _ _, .f => true | .map _ _, .m => true | _, _ => false) := by
    intro D hD
    cases k <;> cases D <;> simp [nkOk, hD]
  cases hD : P.underlying t with
  | none => cases k <;> simp [nkOk, hD] at hk
  | some D =>
    rw [key D hD] at hk
    cases k <;> cases D <;> simp only [Bool.false_eq_true] at hk <;>
      rcases a with _ | _ | _ | _ | _ | x | ⟨x, _, _⟩ | x | _ | _ | _ | _ | _ | _ | _ <;> simp only [vnk, Option.some.injEq, Prod.mk.injEq, reduceCtorEq, false_and, true_and] at ha <;> subst ha <;>
      rcases b with _ | _ | _ | _ | _ | y | ⟨y, _, _⟩ | y | _ | _ | _ | _ | _ | _ | _ <;> simp only [vnk, Option.some.injEq, Prod.mk.injEq, reduceCtorEq, false_and, true_and] at hb <;> subst hb <;>
      first
        | (simp at hn; done)
        | (simp [Op.equalIn, run_underlying hD]; done)
        | (cases x <;> cases y <;> first | (simp at hn; done) | (simp [Op.equalIn, run_underlying hD]; done))
        | (cases x <;> first | (simp at hn; done) | (simp [Op.equalIn, run_underlying hD]; done))
        | (cases y <;> first | (simp at hn; done) | (simp [Op.equalIn, run_underlying hD]; done))

theorem equalIn_sim {c : Cx} {t : TypeId} {lit : Bool} {x y : AVal} {r : Bool} (h : eqA P t lit x y = some r) {a b : Value} (ha : V c x a) (hb : V c y b) (d : Nat) (w : World) :
    (Op.equalIn (d + 1) t a b).run P w = .ok r w := by
  unfold eqA at h
  split at h
  · split at h
    · rename_i p q hb'
      simp only [Option.some.injEq] at h
      subst h
      simp only [V] at ha hb
      subst ha hb
      unfold boolB at hb'
      split at hb'
      · rename_i hd
        simp [Op.equalIn, run_underlying hd]
      · cases hb'
    · cases h
  · split at h
    · rename_i k1 n1 k2 n2 h1 h2
      split at h
      · rename_i hc
        obtain ⟨rfl, hn, hk, _⟩ := hc
        simp only [Option.some.injEq] at h
        subst h
        exact equalIn_nk (nk_sim h1 ha) (nk_sim h2 hb) hn hk d w
      · cases h
    · cases h

theorem binOp_eq_other {c : Cx} {t : TypeId} {lit : Bool} {x y : AVal} {r : Bool} (h : eqA P t lit x y = some r) {a b : Value} (ha : V c x a) (hb : V c y b) (w : World) :
    (binOp .eql t a b).run P w = .ok (.bool r) w ∧ (binOp .neq t a b).run P w = .ok (.bool (!r)) w := by
  have he : (Op.equal t a b).run P w = .ok r w := equalIn_sim h ha hb 9999 w
  unfold eqA at h
  split at h
  · simp only [V] at ha hb
    subst ha hb
    simp [binOp, he]
  · split at h
    · rename_i k1 n1 k2 n2 h1 h2
      have va := nk_sim h1 ha
      have vb := nk_sim h2 hb
      rcases a with _ | _ | _ | _ | _ | x | ⟨x, _, _⟩ | x | _ | _ | _ | _ | _ | _ | _ <;> simp only [vnk, reduceCtorEq] at va <;>
        rcases b with _ | _ | _ | _ | _ | y | ⟨y, _, _⟩ | y | _ | _ | _ | _ | _ | _ | _ <;> simp only [vnk, reduceCtorEq] at vb <;> simp [binOp, he]
    · cases h

end Go.Am
