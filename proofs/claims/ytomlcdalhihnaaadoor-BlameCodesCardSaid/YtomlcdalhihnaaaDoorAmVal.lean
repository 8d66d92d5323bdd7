/- The values and the memory of an idealised run, and what it means that a run of the model keeps to it. Generic: over any program. -/
import Derived.WalkKit
namespace Go.Am
open Go.RowKit

inductive AVal where
  | bool (b : Bool)
  | int (k : IntKind) (n : Int)
  | str (s : List UInt8)
  | agg (cs : List AVal)
  | nilp
  | ptr (b off : Nat)
  | ipt (cs : List AVal)
  | eptr (id : Nat) (cs : List AVal)
  | hnd (b off : Nat)
  | nils
  | list (sz : Nat) (rows : List (List AVal)) (ex : Bool)
  | sl (sz b off len cap : Nat) (ex : Bool)
  | nilm
  | mapr (b : Nat)
  | fn (f : Fn) (first captured : List AVal)
  | nilf
  | iface (t : TypeId) (v : AVal)
  | nili
  | tup (vs : List AVal)
  | junk
  deriving Inhabited

inductive ABlk where
  | cells (cs : List AVal)
  | mp (es : List (AVal × AVal))
  deriving Inhabited

abbrev Heap := List (Option ABlk)

structure Cx where
  ι : Nat → Option (Nat × Nat)
  θ : List (Nat × Nat)
  I : Nat → Prop
  w : World

/-- Cells from off on hold vs. -/
def At (w : World) (B off : Nat) (vs : List Value) : Prop := ∀ j v, vs[j]? = some v → w.cell? ⟨B, off + j, none⟩ = some v

def Room (w : World) (B n : Nat) : Prop := ∃ t m, w.shape? B = some (t, m) ∧ n ≤ m

/-- The same with no memory of one's own: what is for all time leads to nothing that may turn. -/
def Cx.pure (c : Cx) : Cx := { c with ι := fun _ => none }

mutual
def V : Cx → AVal → Value → Prop
  | _, .bool b, v => v = .bool b
  | _, .int k n, v => v = .int k n
  | _, .str s, v => ∃ t : ByteArray, v = .string t ∧ t.data.toList = s
  | c, .agg cs, v => ∃ vs : List Value, v = .agg vs.toArray ∧ Vs c cs vs
  | _, .nilp, v => v = .pointer none
  | c, .ptr b off, v => ∃ B base, c.ι b = some (B, base) ∧ v = .pointer (some ⟨B, base + off, none⟩)
  | c, .ipt cs, v => ∃ B off vs, v = .pointer (some ⟨B, off, none⟩) ∧ c.I B ∧ At c.w B off vs ∧ Vs c.pure cs vs
  | c, .eptr id cs, v => ∃ B o vs, c.θ.Nodup ∧ c.θ[id]? = some (B, o) ∧ v = .pointer (some ⟨B, o, none⟩) ∧ c.I B ∧ At c.w B o vs ∧ Vs c.pure cs vs ∧ ∃ ca ta, c.w.heap[B]? = some (.cells ca ta (0, 0))
  | _, .hnd b off, v => v = .pointer (some ⟨b, off, none⟩)
  | _, .nils, v => v = .slice none 0 0
  | c, .list sz rows ex, v => ∃ B off cap vs, v = .slice (some ⟨B, off, none⟩) rows.length cap ∧ rows.length ≤ cap ∧ (ex = true → cap = rows.length) ∧ c.I B ∧ At c.w B off vs ∧ Vss c.pure sz rows vs
  | c, .sl sz b off len cap ex, v => ∃ B base k o, c.ι b = some (B, base) ∧ v = .slice (some ⟨B, o, none⟩) len k ∧ (0 < k → o = base + off) ∧ len ≤ cap ∧ cap ≤ k ∧ (ex = true → k = cap) ∧ Room c.w B (base + off + k * sz)
  | _, .nilm, v => v = .map none
  | c, .mapr b, v => ∃ B, c.ι b = some (B, 0) ∧ v = .map (some B)
  | c, .fn f first captured, v => ∃ vs us, v = .func f vs.toArray us.toArray ∧ Vs c first vs ∧ Vs c captured us
  | _, .nilf, v => v = .nilFunc
  | c, .iface t a, v => ∃ u, v = .iface t u ∧ V c a u
  | _, .nili, v => v = .nilIface
  | c, .tup as, v => ∃ vs : List Value, v = .tuple vs.toArray ∧ Vs c as vs
  | _, .junk, _ => True
def Vs : Cx → List AVal → List Value → Prop
  | _, [], vs => vs = []
  | c, a :: as, vs => ∃ v us, vs = v :: us ∧ V c a v ∧ Vs c as us
def Vss : Cx → Nat → List (List AVal) → List Value → Prop
  | _, _, [], vs => vs = []
  | c, sz, r :: rs, vs => ∃ us ws, vs = us ++ ws ∧ us.length = sz ∧ Vs c r us ∧ Vss c sz rs ws
end

theorem Vs_length {c : Cx} : ∀ {as : List AVal} {vs : List Value}, Vs c as vs → as.length = vs.length
  | [], _, h => by simp [Vs] at h; simp [h]
  | _ :: as, _, h => by
    simp only [Vs] at h
    obtain ⟨v, us, rfl, _, h⟩ := h
    simp [Vs_length h]

/-- What a later state keeps of an earlier one, as far as values go. -/
structure Ext (c c' : Cx) : Prop where
  ι : ∀ b x, c.ι b = some x → c'.ι b = some x
  θ : c'.θ = c.θ
  I : ∀ B, c.I B → c'.I B
  kept : ∀ B, c.I B → c'.w.heap[B]? = c.w.heap[B]?
  shape : ∀ B t n, c.w.shape? B = some (t, n) → c'.w.shape? B = some (t, n)

theorem Ext.refl (c : Cx) : Ext c c := ⟨fun _ _ h => h, rfl, fun _ h => h, fun _ _ => rfl, fun _ _ _ h => h⟩
theorem Ext.trans {a b c : Cx} (h : Ext a b) (k : Ext b c) : Ext a c :=
  ⟨fun x y hx => k.ι x y (h.ι x y hx), k.θ.trans h.θ, fun B hB => k.I B (h.I B hB), fun B hB => (k.kept B (h.I B hB)).trans (h.kept B hB), fun B t n hs => k.shape B t n (h.shape B t n hs)⟩

theorem Ext.pure {c c' : Cx} (h : Ext c c') : Ext c.pure c'.pure := ⟨(fun _ _ h => by cases h), h.θ, h.I, h.kept, h.shape⟩
theorem Ext.of_pure (c : Cx) : Ext c.pure c := ⟨(fun _ _ h => by cases h), rfl, fun _ h => h, fun _ _ => rfl, fun _ _ _ h => h⟩

theorem At.ext {c c' : Cx} (h : Ext c c') {B off : Nat} {vs : List Value} (hI : c.I B) (ha : At c.w B off vs) : At c'.w B off vs :=
  fun j v hj => by rw [World.cell?_of_block (w := c.w) (h.kept B hI)]; exact ha j v hj

theorem Room.ext {c c' : Cx} (h : Ext c c') {B n : Nat} (hr : Room c.w B n) : Room c'.w B n := by
  obtain ⟨t, m, hs, hn⟩ := hr
  exact ⟨t, m, h.shape B t m hs, hn⟩

mutual
theorem V_ext {c c' : Cx} (h : Ext c c') : ∀ (a : AVal) (v : Value), V c a v → V c' a v
  | .bool b, v, hv => by simpa [V] using hv
  | .int k n, v, hv => by simpa [V] using hv
  | .str s, v, hv => by simpa [V] using hv
  | .agg cs, v, hv => by
    simp only [V] at hv ⊢
    obtain ⟨vs, e, hvs⟩ := hv
    exact ⟨vs, e, Vs_ext h cs vs hvs⟩
  | .nilp, v, hv => by simpa [V] using hv
  | .ptr b off, v, hv => by
    simp only [V] at hv ⊢
    obtain ⟨B, base, hi, e⟩ := hv
    exact ⟨B, base, h.ι _ _ hi, e⟩
  | .ipt cs, v, hv => by
    simp only [V] at hv ⊢
    obtain ⟨B, off, vs, e, hI, ha, hvs⟩ := hv
    exact ⟨B, off, vs, e, h.I _ hI, ha.ext h hI, Vs_ext h.pure cs vs hvs⟩
  | .eptr id cs, v, hv => by
    simp only [V, h.θ] at hv ⊢
    obtain ⟨B, o, vs, hn, e1, e, hI, ha, hvs, ca, ta, hc⟩ := hv
    exact ⟨B, o, vs, hn, e1, e, h.I _ hI, ha.ext h hI, Vs_ext h.pure cs vs hvs, ca, ta, by rw [h.kept _ hI]; exact hc⟩
  | .hnd b off, v, hv => by simpa [V] using hv
  | .nils, v, hv => by simpa [V] using hv
  | .list sz rows ex, v, hv => by
    simp only [V] at hv ⊢
    obtain ⟨B, off, cap, vs, e, hc, hx, hI, ha, hvs⟩ := hv
    exact ⟨B, off, cap, vs, e, hc, hx, h.I _ hI, ha.ext h hI, Vss_ext h.pure sz rows vs hvs⟩
  | .sl sz b off len cap ex, v, hv => by
    simp only [V] at hv ⊢
    obtain ⟨B, base, k, o, hi, e, h0, h1, h2, h3, h4⟩ := hv
    exact ⟨B, base, k, o, h.ι _ _ hi, e, h0, h1, h2, h3, h4.ext h⟩
  | .nilm, v, hv => by simpa [V] using hv
  | .mapr b, v, hv => by
    simp only [V] at hv ⊢
    obtain ⟨B, hi, e⟩ := hv
    exact ⟨B, h.ι _ _ hi, e⟩
  | .fn f first captured, v, hv => by
    simp only [V] at hv ⊢
    obtain ⟨vs, us, e, h1, h2⟩ := hv
    exact ⟨vs, us, e, Vs_ext h first vs h1, Vs_ext h captured us h2⟩
  | .nilf, v, hv => by simpa [V] using hv
  | .iface t a, v, hv => by
    simp only [V] at hv ⊢
    obtain ⟨u, e, hu⟩ := hv
    exact ⟨u, e, V_ext h a u hu⟩
  | .nili, v, hv => by simpa [V] using hv
  | .tup as, v, hv => by
    simp only [V] at hv ⊢
    obtain ⟨vs, e, hvs⟩ := hv
    exact ⟨vs, e, Vs_ext h as vs hvs⟩
  | .junk, v, _ => by simp [V]
theorem Vs_ext {c c' : Cx} (h : Ext c c') : ∀ (as : List AVal) (vs : List Value), Vs c as vs → Vs c' as vs
  | [], vs, hv => by simpa [Vs] using hv
  | a :: as, vs, hv => by
    simp only [Vs] at hv ⊢
    obtain ⟨v, us, e, h1, h2⟩ := hv
    exact ⟨v, us, e, V_ext h a v h1, Vs_ext h as us h2⟩
theorem Vss_ext {c c' : Cx} (h : Ext c c') (sz : Nat) : ∀ (rs : List (List AVal)) (vs : List Value), Vss c sz rs vs → Vss c' sz rs vs
  | [], vs, hv => by simpa [Vss] using hv
  | r :: rs, vs, hv => by
    simp only [Vss] at hv ⊢
    obtain ⟨us, ws, e, hl, h1, h2⟩ := hv
    exact ⟨us, ws, e, hl, Vs_ext h r us h1, Vss_ext h sz rs ws h2⟩
end

end Go.Am
