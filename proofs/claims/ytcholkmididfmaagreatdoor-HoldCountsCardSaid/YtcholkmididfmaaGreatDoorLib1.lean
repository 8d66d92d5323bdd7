/- Library, part 1: AmVal, AmRel, AmOp, AmSim, AmSim2, AmSim3, AmMap, AmSim4, AmSim5, AmSim6, AmSim7, AmExec. General texts of the author of this claim: an idealised machine and a symbolic one, both proved sound over the model. -/
import Derived.WalkKit
import Derived.LaidEql
import Derived.Laws.StructEq
import Derived.ChangeKeysEq
import Derived.Stop.Asserts
import Derived.Laws.BytesString
import Derived.Laws.IdiomStrings
set_option linter.unusedVariables false
set_option linter.unusedSimpArgs false
/- The values and the memory of an idealised run, and what it means that a run of the model keeps to it. Generic: over any program. -/
namespace Go.Am
abbrev qa := @Option.some.injEq
abbrev qb := @of_decide_eq_true
abbrev qc := @of_decide_eq_false
abbrev qd := @Option.map_eq_some_iff
abbrev qe := @Prod.mk.injEq
abbrev qf := @Nat.le_refl
abbrev qg := @List.getElem?_append_left
abbrev qh := @List.getElem?_set
abbrev qi := @List.getD_eq_getElem?_getD
abbrev qj := @Bool.and_eq_true
abbrev qk := @List.getElem?_append_right
abbrev qm := @Nat.lt_or_ge
abbrev qn := @List.length_cons
abbrev qo := @List.length_append
abbrev qp := @List.mem_of_getElem?
abbrev qq := @List.eq_nil_of_length_eq_zero
abbrev qr := @List.getElem?_eq_none
abbrev qt := @List.getElem?_eq_getElem
abbrev qu := @Nat.lt_of_lt_of_le
abbrev qw := @List.getElem?_drop
abbrev qx := @List.getElem?_take
abbrev qy := @Array.getD_eq_getD_getElem?
abbrev qz := @List.length_set
open Go.RowKit
inductive AVal where
 | bool (b : Bool)
 | int (k : IntKind) (n : Int)
 | str (s : List UInt8)
 | agg (cs : List AVal)
 | nilp
 | ptr (b off : Nat)
 | ipt (cs : List AVal)
 | eptr (id : Nat) (cs : List AVal)
 | hnd (b off : Nat)
 | nils
 | list (sz : Nat) (rows : List (List AVal)) (ex : Bool)
 | sl (sz b off len cap : Nat) (ex : Bool)
 | nilm
 | mapr (b : Nat)
 | fn (f : Fn) (first captured : List AVal)
 | nilf
 | iface (t : TypeId) (v : AVal)
 | nili
 | tup (vs : List AVal)
 | junk
 deriving Inhabited
inductive ABlk where
 | cells (cs : List AVal)
 | mp (es : List (AVal × AVal))
 | it (s : List UInt8) (pos : Nat)
 | mi (b since : Nat) (seen : List Nat) (last : Nat)
 deriving Inhabited
abbrev Heap := List (Option ABlk)
structure Cx where
 ι : Nat → Option (Nat × Nat)
 θ : List (Nat × Nat)
 I : Nat → Prop
 w : World
def At (w : World) (B off : Nat) (vs : List Value) : Prop := ∀ j v,vs[j]? = some v → w.cell? ⟨B,off + j,none⟩ = some v
def Room (w : World) (B n : Nat) : Prop := ∃ t m,w.shape? B = some (t,m) ∧ n ≤ m
def Cx.pure (c : Cx) : Cx := { c with ι := fun _ => none }
mutual
def V : Cx → AVal → Value → Prop
 | _,.bool b,v => v = .bool b
 | _,.int k n,v => v = .int k n
 | _,.str s,v => ∃ t : ByteArray,v = .string t ∧ t.data.toList = s
 | c,.agg cs,v => ∃ vs : List Value,v = .agg vs.toArray ∧ Vs c cs vs
 | _,.nilp,v => v = .pointer none
 | c,.ptr b off,v => ∃ B base,c.ι b = some (B,base) ∧ v = .pointer (some ⟨B,base + off,none⟩)
 | c,.ipt cs,v => ∃ B off vs,v = .pointer (some ⟨B,off,none⟩) ∧ c.I B ∧ At c.w B off vs ∧ Vs c.pure cs vs
 | c,.eptr id cs,v => ∃ B o vs,c.θ.Nodup ∧ c.θ[id]? = some (B,o) ∧ v = .pointer (some ⟨B,o,none⟩) ∧ c.I B ∧ At c.w B o vs ∧ Vs c.pure cs vs ∧ ∃ ca ta,c.w.heap[B]? = some (.cells ca ta (0,0))
 | _,.hnd b off,v => v = .pointer (some ⟨b,off,none⟩)
 | _,.nils,v => v = .slice none 0 0
 | c,.list sz rows ex,v => ∃ a cap vs,v = .slice (some a) rows.length cap ∧ rows.length ≤ cap ∧ (ex = true → cap = rows.length) ∧ (rows = [] ∨ (a.spot = none ∧ c.I a.block ∧ At c.w a.block a.off vs)) ∧ Vss c.pure sz rows vs
 | c,.sl sz b off len cap ex,v => ∃ B base k o,c.ι b = some (B,base) ∧ v = .slice (some ⟨B,o,none⟩) len k ∧ (0 < k → o = base + off) ∧ len ≤ cap ∧ cap ≤ k ∧ (ex = true → k = cap) ∧ Room c.w B (base + off + k * sz)
 | _,.nilm,v => v = .map none
 | c,.mapr b,v => ∃ B,c.ι b = some (B,0) ∧ v = .map (some B)
 | c,.fn f first captured,v => ∃ vs us,v = .func f vs.toArray us.toArray ∧ Vs c first vs ∧ Vs c captured us
 | _,.nilf,v => v = .nilFunc
 | c,.iface t a,v => ∃ u,v = .iface t u ∧ V c a u
 | _,.nili,v => v = .nilIface
 | c,.tup as,v => ∃ vs : List Value,v = .tuple vs.toArray ∧ Vs c as vs
 | _,.junk,_ => True
def Vs : Cx → List AVal → List Value → Prop
 | _,[],vs => vs = []
 | c,a :: as,vs => ∃ v us,vs = v :: us ∧ V c a v ∧ Vs c as us
def Vss : Cx → Nat → List (List AVal) → List Value → Prop
 | _,_,[],vs => vs = []
 | c,sz,r :: rs,vs => ∃ us ws,vs = us ++ ws ∧ us.length = sz ∧ Vs c r us ∧ Vss c sz rs ws
end
theorem Vs_length {c : Cx} : ∀ {as : List AVal} {vs : List Value},Vs c as vs → as.length = vs.length
 | [],_,h => by simp [Vs] at h; simp [h]
 | _ :: as,_,h => by
  simp only [Vs] at h
  obtain ⟨v,us,rfl,_,h⟩ := h
  simp [Vs_length h]
structure Ext (c c' : Cx) : Prop where
 ι : ∀ b x,c.ι b = some x → c'.ι b = some x
 θ : c'.θ = c.θ
 I : ∀ B,c.I B → c'.I B
 kept : ∀ B,c.I B → c'.w.heap[B]? = c.w.heap[B]?
 shape : ∀ B t n,c.w.shape? B = some (t,n) → c'.w.shape? B = some (t,n)
theorem Ext.refl (c : Cx) : Ext c c := ⟨fun _ _ h => h,rfl,fun _ h => h,fun _ _ => rfl,fun _ _ _ h => h⟩
theorem Ext.trans {a b c : Cx} (h : Ext a b) (k : Ext b c) : Ext a c :=
 ⟨fun x y hx => k.ι x y (h.ι x y hx),k.θ.trans h.θ,fun B hB => k.I B (h.I B hB),fun B hB => (k.kept B (h.I B hB)).trans (h.kept B hB),fun B t n hs => k.shape B t n (h.shape B t n hs)⟩
theorem Ext.pure {c c' : Cx} (h : Ext c c') : Ext c.pure c'.pure := ⟨(fun _ _ h => by cases h),h.θ,h.I,h.kept,h.shape⟩
theorem Ext.of_pure (c : Cx) : Ext c.pure c := ⟨(fun _ _ h => by cases h),rfl,fun _ h => h,fun _ _ => rfl,fun _ _ _ h => h⟩
theorem At.ext {c c' : Cx} (h : Ext c c') {B off : Nat} {vs : List Value} (hI : c.I B) (ha : At c.w B off vs) : At c'.w B off vs :=
 fun j v hj => by rw [World.cell?_of_block (w := c.w) (h.kept B hI)]; exact ha j v hj
theorem Room.ext {c c' : Cx} (h : Ext c c') {B n : Nat} (hr : Room c.w B n) : Room c'.w B n := by
 obtain ⟨t,m,hs,hn⟩ := hr
 exact ⟨t,m,h.shape B t m hs,hn⟩
mutual
theorem V_ext {c c' : Cx} (h : Ext c c') : ∀ (a : AVal) (v : Value),V c a v → V c' a v
 | .bool b,v,hv => by simpa [V] using hv
 | .int k n,v,hv => by simpa [V] using hv
 | .str s,v,hv => by simpa [V] using hv
 | .agg cs,v,hv => by
  simp only [V] at hv ⊢
  obtain ⟨vs,e,hvs⟩ := hv
  exact ⟨vs,e,Vs_ext h cs vs hvs⟩
 | .nilp,v,hv => by simpa [V] using hv
 | .ptr b off,v,hv => by
  simp only [V] at hv ⊢
  obtain ⟨B,base,hi,e⟩ := hv
  exact ⟨B,base,h.ι _ _ hi,e⟩
 | .ipt cs,v,hv => by
  simp only [V] at hv ⊢
  obtain ⟨B,off,vs,e,hI,ha,hvs⟩ := hv
  exact ⟨B,off,vs,e,h.I _ hI,ha.ext h hI,Vs_ext h.pure cs vs hvs⟩
 | .eptr id cs,v,hv => by
  simp only [V,h.θ] at hv ⊢
  obtain ⟨B,o,vs,hn,e1,e,hI,ha,hvs,ca,ta,hc⟩ := hv
  exact ⟨B,o,vs,hn,e1,e,h.I _ hI,ha.ext h hI,Vs_ext h.pure cs vs hvs,ca,ta,by rw [h.kept _ hI]; exact hc⟩
 | .hnd b off,v,hv => by simpa [V] using hv
 | .nils,v,hv => by simpa [V] using hv
 | .list sz rows ex,v,hv => by
  simp only [V] at hv ⊢
  obtain ⟨a,cap,vs,e,hc,hx,hm,hvs⟩ := hv
  refine ⟨a,cap,vs,e,hc,hx, ?_,Vss_ext h.pure sz rows vs hvs⟩
  rcases hm with hm | ⟨hs,hI,ha⟩
  ·exact .inl hm
  ·exact .inr ⟨hs,h.I _ hI,ha.ext h hI⟩
 | .sl sz b off len cap ex,v,hv => by
  simp only [V] at hv ⊢
  obtain ⟨B,base,k,o,hi,e,h0,h1,h2,h3,h4⟩ := hv
  exact ⟨B,base,k,o,h.ι _ _ hi,e,h0,h1,h2,h3,h4.ext h⟩
 | .nilm,v,hv => by simpa [V] using hv
 | .mapr b,v,hv => by
  simp only [V] at hv ⊢
  obtain ⟨B,hi,e⟩ := hv
  exact ⟨B,h.ι _ _ hi,e⟩
 | .fn f first captured,v,hv => by
  simp only [V] at hv ⊢
  obtain ⟨vs,us,e,h1,h2⟩ := hv
  exact ⟨vs,us,e,Vs_ext h first vs h1,Vs_ext h captured us h2⟩
 | .nilf,v,hv => by simpa [V] using hv
 | .iface t a,v,hv => by
  simp only [V] at hv ⊢
  obtain ⟨u,e,hu⟩ := hv
  exact ⟨u,e,V_ext h a u hu⟩
 | .nili,v,hv => by simpa [V] using hv
 | .tup as,v,hv => by
  simp only [V] at hv ⊢
  obtain ⟨vs,e,hvs⟩ := hv
  exact ⟨vs,e,Vs_ext h as vs hvs⟩
 | .junk,v,_ => by simp [V]
theorem Vs_ext {c c' : Cx} (h : Ext c c') : ∀ (as : List AVal) (vs : List Value),Vs c as vs → Vs c' as vs
 | [],vs,hv => by simpa [Vs] using hv
 | a :: as,vs,hv => by
  simp only [Vs] at hv ⊢
  obtain ⟨v,us,e,h1,h2⟩ := hv
  exact ⟨v,us,e,V_ext h a v h1,Vs_ext h as us h2⟩
theorem Vss_ext {c c' : Cx} (h : Ext c c') (sz : Nat) : ∀ (rs : List (List AVal)) (vs : List Value),Vss c sz rs vs → Vss c' sz rs vs
 | [],vs,hv => by simpa [Vss] using hv
 | r :: rs,vs,hv => by
  simp only [Vss] at hv ⊢
  obtain ⟨us,ws,e,hl,h1,h2⟩ := hv
  exact ⟨us,ws,e,hl,Vs_ext h r us h1,Vss_ext h sz rs ws h2⟩
end
end Go.Am

/- The relation between an idealised memory and the model's world, and how it is carried along. Generic: over any program. -/
namespace Go.Am
open Go.RowKit
def Es (c : Cx) : List (AVal × AVal) → List MapEntry → Prop
 | [],ms => ms = []
 | (k,v) :: es,ms => ∃ m ns,ms = m :: ns ∧ V c k m.key ∧ V c v m.val ∧ Es c es ns
theorem Es_ext {c c' : Cx} (h : Ext c c') : ∀ (es : List (AVal × AVal)) (ms : List MapEntry),Es c es ms → Es c' es ms
 | [],ms,hv => by simpa [Es] using hv
 | (k,v) :: es,ms,hv => by
  simp only [Es] at hv ⊢
  obtain ⟨m,ns,e,h1,h2,h3⟩ := hv
  exact ⟨m,ns,e,V_ext h _ _ h1,V_ext h _ _ h2,Es_ext h es ns h3⟩
theorem Es_length {c : Cx} : ∀ {es : List (AVal × AVal)} {ms : List MapEntry},Es c es ms → es.length = ms.length
 | [],_,h => by simp [Es] at h; simp [h]
 | (_,_) :: es,_,h => by
  simp only [Es] at h
  obtain ⟨v,us,rfl,_,_,h⟩ := h
  simp [Es_length h]
def Std (ms : Array MapEntry) (clock : Nat) : Prop := clock = ms.size ∧ ∀ (j : Nat) (m : MapEntry),ms[j]? = some m → m.born = j
def BlkRel (c : Cx) (B base : Nat) : ABlk → Prop
 | .cells cs => (∀ off,Room c.w B (off + 1) → c.w.frozen? ⟨B,off,none⟩ = false) ∧ Room c.w B (base + cs.length) ∧ ∃ vs,At c.w B base vs ∧ Vs c cs vs
 | .mp es => base = 0 ∧ ∃ ms clock,c.w.heap[B]? = some (.map ms clock) ∧ Es c es ms.toList ∧ Std ms clock
 | .it s pos => base = 0 ∧ ∃ t : ByteArray,c.w.heap[B]? = some (.stringIter t pos) ∧ t.data.toList = s
 | .mi b since seen last => base = 0 ∧ ∃ Bm,c.ι b = some (Bm,0) ∧ c.w.heap[B]? = some (.mapIter (some Bm) since seen.toArray last)
theorem At.of_block {w w' : World} {B off : Nat} {vs : List Value} (h : w'.heap[B]? = w.heap[B]?) (ha : At w B off vs) : At w' B off vs :=
 fun j v hj => by rw [World.cell?_of_block (w := w) h]; exact ha j v hj
theorem shape_of_block {w w' : World} {B : Nat} (h : w'.heap[B]? = w.heap[B]?) : w'.shape? B = w.shape? B := by simp [World.shape?,h]
theorem Room.of_block {w w' : World} {B n : Nat} (h : w'.heap[B]? = w.heap[B]?) (hr : Room w' B n) : Room w B n := by
 obtain ⟨t,m,hs,hn⟩ := hr
 exact ⟨t,m,by rw [← shape_of_block h]; exact hs,hn⟩
theorem BlkRel.ext {c c' : Cx} (h : Ext c c') {B base : Nat} {blk : ABlk} (hB : c'.w.heap[B]? = c.w.heap[B]?) (hb : BlkRel c B base blk) : BlkRel c' B base blk := by
 cases blk with
 | cells cs =>
  obtain ⟨h1,h2,vs,h3,h4⟩ := hb
  exact ⟨fun off hr => by rw [World.frozen?_of_block (w := c.w) hB]; exact h1 off (hr.of_block hB),h2.ext h,vs,h3.of_block hB,Vs_ext h _ _ h4⟩
 | mp es =>
  obtain ⟨h1,ms,clock,h2,h3,h4⟩ := hb
  exact ⟨h1,ms,clock,by rw [hB]; exact h2,Es_ext h _ _ h3,h4⟩
 | it s pos =>
  obtain ⟨h1,t,h2,h3⟩ := hb
  exact ⟨h1,t,by rw [hB]; exact h2,h3⟩
 | mi b since seen last =>
  obtain ⟨h1,Bm,h2,h3⟩ := hb
  exact ⟨h1,Bm,h.ι _ _ h2,by rw [hB]; exact h3⟩
structure Rel (c : Cx) (H : Heap) : Prop where
 blk : ∀ b blk,H[b]? = some (some blk) → ∃ B base,c.ι b = some (B,base) ∧ ¬ c.I B ∧ B < c.w.heap.size ∧ BlkRel c B base blk
 inj : ∀ b b' blk blk' B base base',H[b]? = some (some blk) → H[b']? = some (some blk') → c.ι b = some (B,base) → c.ι b' = some (B,base') → b = b'
 fresh : ∀ b,H.length ≤ b → c.ι b = none
 lt : ∀ B,c.I B → B < c.w.heap.size
def Img (c : Cx) (H : Heap) (B : Nat) : Prop := ∃ b blk base,H[b]? = some (some blk) ∧ c.ι b = some (B,base)
structure Tr (c : Cx) (H : Heap) (c' : Cx) (H' : Heap) : Prop where
 ext : Ext c c'
 size : c.w.heap.size ≤ c'.w.heap.size
 frame : ∀ B,B < c.w.heap.size → ¬ Img c H B → c'.w.heap[B]? = c.w.heap[B]?
 img : ∀ B,B < c.w.heap.size → Img c' H' B → Img c H B
 imm : ∀ B,B < c.w.heap.size → c'.I B → c.I B ∨ Img c H B
 os : c'.w.os = c.w.os
 tape : c'.w.tape = c.w.tape
 output : c'.w.output = c.w.output
structure Low (lo : Nat) (c : Cx) (H : Heap) (c' : Cx) (H' : Heap) : Prop where
 low : ∀ (b : Nat) (blk : ABlk),b < lo → H[b]? = some (some blk) → H'[b]? = some (some blk) ∧ ∀ B base,c.ι b = some (B,base) → c'.w.heap[B]? = c.w.heap[B]?
 dom : ∀ b,b < H.length → c.ι b = none → c'.ι b = none
 len : H.length ≤ H'.length
theorem Low.refl (lo : Nat) (c : Cx) (H : Heap) : Low lo c H c H := ⟨fun _ _ _ h => ⟨h,fun _ _ _ => rfl⟩,fun _ _ h => h,qf _⟩
theorem Low.trans {lo : Nat} {c c' c'' : Cx} {H H' H'' : Heap} (hE : Ext c c') (h : Low lo c H c' H') (k : Low lo c' H' c'' H'') : Low lo c H c'' H'' := by
 refine ⟨?_,fun b hb hi => k.dom b (qu hb h.len) (h.dom b hb hi),Nat.le_trans h.len k.len⟩
 intro b blk hb hH
 obtain ⟨h1,h2⟩ := h.low b blk hb hH
 obtain ⟨h3,h4⟩ := k.low b blk hb h1
 exact ⟨h3,fun B base hi => (h4 B base (hE.ι _ _ hi)).trans (h2 B base hi)⟩
theorem Low.mono {lo lo' : Nat} {c c' : Cx} {H H' : Heap} (hl : lo' ≤ lo) (h : Low lo c H c' H') : Low lo' c H c' H' :=
 ⟨fun b blk hb hH => h.low b blk (qu hb hl) hH,h.dom,h.len⟩
theorem Tr.refl (c : Cx) (H : Heap) : Tr c H c H :=
 ⟨Ext.refl c,qf _,fun _ _ _ => rfl,fun _ _ h => h,fun _ _ h => .inl h,rfl,rfl,rfl⟩
theorem Tr.trans {c c' c'' : Cx} {H H' H'' : Heap} (h : Tr c H c' H') (k : Tr c' H' c'' H'') : Tr c H c'' H'' where
 ext := h.ext.trans k.ext
 size := Nat.le_trans h.size k.size
 frame := fun B hB hI => (k.frame B (qu hB h.size) fun hi => hI (h.img B hB hi)).trans (h.frame B hB hI)
 img := fun B hB hi => h.img B hB (k.img B (qu hB h.size) hi)
 imm := fun B hB hi => by
  rcases k.imm B (qu hB h.size) hi with h1 | h1
  ·exact h.imm B hB h1
  ·exact .inr (h.img B hB h1)
 os := k.os.trans h.os
 tape := k.tape.trans h.tape
 output := k.output.trans h.output
theorem Rel.step {c c' : Cx} {H H' : Heap} (hR : Rel c H) (X : Nat → Prop) (hX : ∀ B,X B → Img c H B)
 (hι : ∀ b x,c.ι b = some x → c'.ι b = some x) (hθ : c'.θ = c.θ) (hI : c'.I = c.I)
 (hsize : c.w.heap.size ≤ c'.w.heap.size) (hkeep : ∀ B,B < c.w.heap.size → ¬ X B → c'.w.heap[B]? = c.w.heap[B]?)
 (hshape : ∀ B t n,c.w.shape? B = some (t,n) → c'.w.shape? B = some (t,n))
 (hos : c'.w.os = c.w.os) (htape : c'.w.tape = c.w.tape) (hout : c'.w.output = c.w.output)
 (hlive : Ext c c' → ∀ b blk,H'[b]? = some (some blk) →
  (H[b]? = some (some blk) ∧ ∃ B base,c.ι b = some (B,base) ∧ ¬ X B) ∨
  (∃ B base,c'.ι b = some (B,base) ∧ ¬ c.I B ∧ B < c'.w.heap.size ∧ BlkRel c' B base blk ∧ (B < c.w.heap.size → Img c H B)))
 (hinj : ∀ b b' blk blk' B base base',H'[b]? = some (some blk) → H'[b']? = some (some blk') → c'.ι b = some (B,base) → c'.ι b' = some (B,base') → b = b')
 (hfresh : ∀ b,H'.length ≤ b → c'.ι b = none) : Rel c' H' ∧ Tr c H c' H' := by
 have hni : ∀ B,c.I B → ¬ Img c H B := by
  rintro B hB ⟨b,blk,base,h1,h2⟩
  obtain ⟨B',base',h3,h4,_⟩ := hR.blk b blk h1
  rw [h2] at h3
  simp only [qa,qe] at h3
  obtain ⟨rfl,rfl⟩ := h3
  exact h4 hB
 have hext : Ext c c' := ⟨hι,hθ,fun B hB => by rw [hI]; exact hB,fun B hB => hkeep B (hR.lt B hB) fun hx => hni B hB (hX B hx),hshape⟩
 refine ⟨⟨?_,hinj,hfresh, ?_⟩,⟨hext,hsize, ?_, ?_, ?_,hos,htape,hout⟩⟩
 ·intro b blk hb
  rcases hlive hext b blk hb with ⟨h1,B,base,h2,h3⟩ | ⟨B,base,h1,h2,h3,h4,_⟩
  ·obtain ⟨B',base',h4,h5,h6,h7⟩ := hR.blk b blk h1
   rw [h2] at h4
   simp only [qa,qe] at h4
   obtain ⟨rfl,rfl⟩ := h4
   exact ⟨B,base,hι _ _ h2,by rw [hI]; exact h5,qu h6 hsize,h7.ext hext (hkeep B h6 h3)⟩
  ·exact ⟨B,base,h1,by rw [hI]; exact h2,h3,h4⟩
 ·intro B hB
  rw [hI] at hB
  exact qu (hR.lt B hB) hsize
 ·exact fun B hB hi => hkeep B hB fun hx => hi (hX B hx)
 ·rintro B hB ⟨b,blk,base,h1,h2⟩
  rcases hlive hext b blk h1 with ⟨h3,B',base',h4,h5⟩ | ⟨B',base',h3,h4,h5,h6,h7⟩
  ·have := hι _ _ h4
   rw [h2] at this
   simp only [qa,qe] at this
   obtain ⟨rfl,rfl⟩ := this
   exact ⟨b,blk,base,h3,h4⟩
  ·rw [h2] at h3
   simp only [qa,qe] at h3
   obtain ⟨rfl,rfl⟩ := h3
   exact h7 hB
 ·intro B _ h
  rw [hI] at h
  exact .inl h
def Cx.put (c : Cx) (b B base : Nat) (w : World) : Cx := { c with ι := fun x => if x = b then some (B,base) else c.ι x,w := w }
theorem shape_alloc (w : World) (o : Obj) (B : Nat) (t : TypeId) (n : Nat) (h : w.shape? B = some (t,n)) : (w.alloc o).shape? B = some (t,n) := by
 have hlt : B < w.heap.size := by
  rcases qm B w.heap.size with h1 | h1
  ·exact h1
  ·simp [World.shape?,Array.getElem?_eq_none h1] at h
 rw [shape_of_block (w := w)]
 ·exact h
 ·exact Below.heap_alloc w o B hlt
theorem Rel.add {c : Cx} {H H' : Heap} (hR : Rel c H) (b : Nat) (o : Obj) (blk : ABlk) (hb : c.ι b = none) (hbl : b < H'.length) (hlen : H.length ≤ H'.length)
 (hH : ∀ x y,H'[x]? = some (some y) → (x = b ∧ y = blk) ∨ (x ≠ b ∧ H[x]? = some (some y)))
 (hblk : Ext c (c.put b c.w.heap.size 0 (c.w.alloc o)) → BlkRel (c.put b c.w.heap.size 0 (c.w.alloc o)) c.w.heap.size 0 blk) :
 Rel (c.put b c.w.heap.size 0 (c.w.alloc o)) H' ∧ Tr c H (c.put b c.w.heap.size 0 (c.w.alloc o)) H' := by
 refine hR.step (fun _ => False) (fun _ h => h.elim) ?_ rfl rfl ?_ ?_ ?_ rfl rfl rfl ?_ ?_ ?_
 ·intro x y hx
  simp only [Cx.put]
  rw [if_neg]
  ·exact hx
  ·rintro rfl; rw [hb] at hx; cases hx
 ·simp [Cx.put]
 ·exact fun B hB _ => Below.heap_alloc _ _ _ hB
 ·exact fun B t n h => shape_alloc _ _ _ _ _ h
 ·intro hext x y hx
  rcases hH x y hx with ⟨rfl,rfl⟩ | ⟨h1,h2⟩
  ·refine .inr ⟨c.w.heap.size,0,by simp [Cx.put],fun hi => ?_,by simp [Cx.put],hblk hext,fun h => absurd h (Nat.lt_irrefl _)⟩
   exact absurd (hR.lt _ hi) (Nat.lt_irrefl _)
  ·obtain ⟨B,base,h3,_⟩ := hR.blk x y h2
   exact .inl ⟨h2,B,base,h3,fun h => h⟩
 ·intro x x' y y' B base base' hx hx' hi hi'
  simp only [Cx.put] at hi hi'
  rcases hH x y hx with ⟨rfl,rfl⟩ | ⟨h1,h2⟩ <;> rcases hH x' y' hx' with ⟨h3,h4⟩ | ⟨h3,h4⟩
  ·exact h3.symm
  ·rw [if_pos rfl] at hi
   rw [if_neg h3] at hi'
   simp only [qa,qe] at hi
   obtain ⟨B1,b1,h5,_,h7,_⟩ := hR.blk x' y' h4
   rw [hi'] at h5
   simp only [qa,qe] at h5
   obtain ⟨rfl,rfl⟩ := h5
   exact absurd h7 (by rw [← hi.1]; exact Nat.lt_irrefl _)
  ·subst h3
   rw [if_pos rfl] at hi'
   rw [if_neg h1] at hi
   simp only [qa,qe] at hi'
   obtain ⟨B1,b1,h5,_,h7,_⟩ := hR.blk x y h2
   rw [hi] at h5
   simp only [qa,qe] at h5
   obtain ⟨rfl,rfl⟩ := h5
   exact absurd h7 (by rw [← hi'.1]; exact Nat.lt_irrefl _)
  ·rw [if_neg h1] at hi
   rw [if_neg h3] at hi'
   exact hR.inj x x' y y' B base base' h2 h4 hi hi'
 ·intro x hx
  simp only [Cx.put]
  rw [if_neg (by omega)]
  exact hR.fresh x (by omega)
theorem Rel.add_low {c : Cx} {H H' : Heap} (hR : Rel c H) (lo b : Nat) (o : Obj) (hb : H.length ≤ b) (hl : H.length ≤ H'.length) (hH : ∀ (x : Nat) (y : ABlk),H[x]? = some (some y) → H'[x]? = some (some y)) :
 Low lo c H (c.put b c.w.heap.size 0 (c.w.alloc o)) H' := by
 refine ⟨?_,fun x hx h => ?_,hl⟩
 ·intro x y _ hx
  refine ⟨hH x y hx,fun B base hi => ?_⟩
  obtain ⟨B',base',h1,_,h2,_⟩ := hR.blk x y hx
  rw [hi] at h1
  simp only [qa,qe] at h1
  obtain ⟨rfl,rfl⟩ := h1
  exact Below.heap_alloc _ _ _ h2
 ·simp only [Cx.put]
  rw [if_neg (by omega)]
  exact h
theorem Rel.update {c : Cx} {H : Heap} (hR : Rel c H) {b B base : Nat} {blk blk' : ABlk} (hb : H[b]? = some (some blk)) (hi : c.ι b = some (B,base)) (w' : World)
 (hsize : w'.heap.size = c.w.heap.size) (hkeep : ∀ X,X ≠ B → w'.heap[X]? = c.w.heap[X]?) (hshape : ∀ B t n,c.w.shape? B = some (t,n) → w'.shape? B = some (t,n))
 (hos : w'.os = c.w.os) (htape : w'.tape = c.w.tape) (hout : w'.output = c.w.output)
 (hblk : Ext c { c with w := w' } → BlkRel { c with w := w' } B base blk') :
 Rel { c with w := w' } (H.set b (some blk')) ∧ Tr c H { c with w := w' } (H.set b (some blk')) := by
 have himg : Img c H B := ⟨b,blk,base,hb,hi⟩
 obtain ⟨B0,base0,h3,h4,h5,_⟩ := hR.blk b blk hb
 rw [hi] at h3
 simp only [qa,qe] at h3
 obtain ⟨rfl,rfl⟩ := h3
 have hget : ∀ x y,(H.set b (some blk'))[x]? = some (some y) → (x = b ∧ y = blk') ∨ (x ≠ b ∧ H[x]? = some (some y)) := by
  intro x y hx
  rw [qh] at hx
  split at hx
  ·rename_i e
   split at hx
   ·simp only [qa] at hx
    exact .inl ⟨e.symm,hx.symm⟩
   ·cases hx
  ·rename_i e
   exact .inr ⟨fun h => e h.symm,hx⟩
 refine hR.step (fun X => X = B) (fun _ h => h ▸ himg) (fun _ _ h => h) rfl rfl ?_ ?_ hshape hos htape hout ?_ ?_ ?_
 ·show c.w.heap.size ≤ w'.heap.size
  omega
 ·exact fun X _ hX => hkeep X hX
 ·intro hext x y hx
  rcases hget x y hx with ⟨rfl,rfl⟩ | ⟨h1,h2⟩
  ·exact .inr ⟨B,base,hi,h4,by show B < w'.heap.size; omega,hblk hext,fun _ => himg⟩
  ·obtain ⟨B1,b1,h6,_,_,_⟩ := hR.blk x y h2
   refine .inl ⟨h2,B1,b1,h6, ?_⟩
   rintro rfl
   exact h1 (hR.inj x b y blk B1 b1 base h2 hb h6 hi)
 ·intro x x' y y' B base base' hx hx' hi hi'
  have live : ∀ (x : Nat) (y : ABlk),(H.set b (some blk'))[x]? = some (some y) → ∃ z : ABlk,H[x]? = some (some z) := by
   intro x y hx
   rcases hget x y hx with ⟨rfl,rfl⟩ | ⟨h1,h2⟩
   ·exact ⟨_,hb⟩
   ·exact ⟨_,h2⟩
  obtain ⟨z,hz⟩ := live x y hx
  obtain ⟨z',hz'⟩ := live x' y' hx'
  exact hR.inj x x' z z' B base base' hz hz' hi hi'
 ·intro x hx
  rw [qz] at hx
  exact hR.fresh x hx
theorem Rel.set_low {c c' : Cx} {H H' : Heap} (hR : Rel c H) {lo b B base : Nat} {blk : ABlk} (hlo : lo ≤ b) (hb : H[b]? = some (some blk)) (hi : c.ι b = some (B,base))
 (hkeep : ∀ X,X ≠ B → c'.w.heap[X]? = c.w.heap[X]?) (hH : ∀ (x : Nat) (y : ABlk),x ≠ b → H[x]? = some (some y) → H'[x]? = some (some y))
 (hdom : ∀ b,b < H.length → c.ι b = none → c'.ι b = none) (hl : H.length ≤ H'.length) : Low lo c H c' H' := by
 refine ⟨?_,hdom,hl⟩
 intro x y hx hxy
 refine ⟨hH x y (by omega) hxy,fun B' base' hi' => hkeep B' ?_⟩
 rintro rfl
 have := hR.inj x b y blk B' base' base hxy hb hi' hi
 omega
theorem Rel.renew {c : Cx} {H : Heap} (hR : Rel c H) {b B base base' : Nat} {blk blk' : ABlk} (hb : H[b]? = some (some blk)) (hi : c.ι b = some (B,base)) (w' : World)
 (hsize : w'.heap.size = c.w.heap.size) (hkeep : ∀ X,X ≠ B → w'.heap[X]? = c.w.heap[X]?) (hshape : ∀ B t n,c.w.shape? B = some (t,n) → w'.shape? B = some (t,n))
 (hos : w'.os = c.w.os) (htape : w'.tape = c.w.tape) (hout : w'.output = c.w.output)
 (hblk : Ext c (c.put H.length B base' w') → BlkRel (c.put H.length B base' w') B base' blk') :
 Rel (c.put H.length B base' w') (H.set b none ++ [some blk']) ∧ Tr c H (c.put H.length B base' w') (H.set b none ++ [some blk']) := by
 have himg : Img c H B := ⟨b,blk,base,hb,hi⟩
 obtain ⟨B0,base0,h3,h4,h5,_⟩ := hR.blk b blk hb
 rw [hi] at h3
 simp only [qa,qe] at h3
 obtain ⟨rfl,rfl⟩ := h3
 have hget : ∀ x y,(H.set b none ++ [some blk'])[x]? = some (some y) → (x = H.length ∧ y = blk') ∨ (x ≠ b ∧ x < H.length ∧ H[x]? = some (some y)) := by
  intro x y hx
  rcases qm x H.length with hl | hl
  ·rw [qg (by simpa using hl),qh] at hx
   split at hx
   ·split at hx <;> cases hx
   ·rename_i e
    exact .inr ⟨fun h => e h.symm,hl,hx⟩
  ·rw [qk (by simpa using hl)] at hx
   rw [qz] at hx
   rcases Nat.eq_or_lt_of_le hl with e | e
   ·subst e
    simp at hx
    exact .inl ⟨rfl,hx.symm⟩
   ·have : x - H.length = (x - H.length - 1) + 1 := by omega
    rw [this] at hx
    simp at hx
 refine hR.step (fun X => X = B) (fun _ h => h ▸ himg) ?_ rfl rfl ?_ ?_ hshape hos htape hout ?_ ?_ ?_
 ·intro x y hx
  simp only [Cx.put]
  rw [if_neg]
  ·exact hx
  ·rintro rfl; rw [hR.fresh _ (qf _)] at hx; cases hx
 ·show c.w.heap.size ≤ w'.heap.size
  omega
 ·exact fun X _ hX => hkeep X hX
 ·intro hext x y hx
  rcases hget x y hx with ⟨rfl,rfl⟩ | ⟨h1,hl,h2⟩
  ·exact .inr ⟨B,base',by simp [Cx.put],h4,by show B < w'.heap.size; omega,hblk hext,fun _ => himg⟩
  ·obtain ⟨B1,b1,h6,_,_,_⟩ := hR.blk x y h2
   refine .inl ⟨h2,B1,b1,h6, ?_⟩
   rintro rfl
   exact h1 (hR.inj x b y blk B1 b1 base h2 hb h6 hi)
 ·intro x x' y y' B1 base1 base1' hx hx' hi1 hi1'
  simp only [Cx.put] at hi1 hi1'
  have other : ∀ x y bb,x ≠ b → H[x]? = some (some y) → c.ι x = some (B,bb) → False := fun x y bb h1 h2 h6 => h1 (hR.inj x b y blk B bb base h2 hb h6 hi)
  rcases hget x y hx with ⟨rfl,rfl⟩ | ⟨h1,hl,h2⟩ <;> rcases hget x' y' hx' with ⟨h3,_⟩ | ⟨h3,hl',h4⟩
  ·exact h3.symm
  ·rw [if_pos rfl] at hi1
   rw [if_neg (by omega)] at hi1'
   simp only [qa,qe] at hi1
   obtain ⟨rfl,_⟩ := hi1
   exact (other x' y' _ h3 h4 hi1').elim
  ·subst h3
   rw [if_pos rfl] at hi1'
   rw [if_neg (by omega)] at hi1
   simp only [qa,qe] at hi1'
   obtain ⟨rfl,_⟩ := hi1'
   exact (other x y _ h1 h2 hi1).elim
  ·rw [if_neg (by omega)] at hi1
   rw [if_neg (by omega)] at hi1'
   exact hR.inj x x' y y' B1 base1 base1' h2 h4 hi1 hi1'
 ·intro x hx
  simp only [qo,qz,qn,List.length_nil] at hx
  simp only [Cx.put]
  rw [if_neg (by omega)]
  exact hR.fresh x (by omega)
theorem Rel.drop {c : Cx} {H : Heap} (hR : Rel c H) (b : Nat) : Rel c (H.set b none) ∧ Tr c H c (H.set b none) := by
 have hget : ∀ (x : Nat) (y : ABlk),(H.set b none)[x]? = some (some y) → H[x]? = some (some y) := by
  intro x y hx
  rw [qh] at hx
  split at hx
  ·split at hx <;> cases hx
  ·exact hx
 refine ⟨⟨fun x y hx => hR.blk x y (hget x y hx),fun x x' y y' B b1 b2 h1 h2 => hR.inj x x' y y' B b1 b2 (hget _ _ h1) (hget _ _ h2),fun x hx => hR.fresh x (by simpa using hx),hR.lt⟩,
  ⟨Ext.refl c,qf _,fun _ _ _ => rfl, ?_,fun _ _ h => .inl h,rfl,rfl,rfl⟩⟩
 rintro B _ ⟨x,y,base,h1,h2⟩
 exact ⟨x,y,base,hget x y h1,h2⟩
end Go.Am

/- What each operation does in an idealised run. Generic: over any program. -/
namespace Go.Am
def leafA : Value → AVal
 | .bool b => .bool b
 | .int k n => .int k n
 | .string s => .str s.data.toList
 | .pointer none => .nilp
 | .slice none 0 0 => .nils
 | .map none => .nilm
 | .nilFunc => .nilf
 | .nilIface => .nili
 | .iface t v => .iface t (leafA v)
 | .func f first captured => if first.isEmpty && captured.isEmpty then .fn f [] [] else .junk
 | _ => .junk
def constA : Value → AVal
 | .agg cs => .agg (cs.toList.map leafA)
 | v => leafA v
def AVal.cells : AVal → List AVal
 | .agg cs => cs
 | v => [v]
def AVal.one : AVal → Bool
 | .agg _ | .tup _ | .junk => false
 | _ => true
def undefA : AVal := .tup []
inductive Pol where
 | keep | pure | fresh
 deriving DecidableEq,Inhabited
structure AStat where
 P : Program
 glob : Nat → Option (List AVal)
 tab : List (Nat × Array Value) := []
 pol : FuncId → Pol
 hook : FuncId → Option (Nat → List AVal → Heap → Option (AVal × Heap))
 meth : TypeId → String → Option FuncId
 methV : TypeId → String → AVal → Option (FuncId × AVal) := fun _ _ _ => none
 methVOk : ∀ t name a g b,methV t name a = some (g,b) → ∀ (c : Cx) (u : Value),V c a u → ∃ u',(method (P.types.size + Made.depth) t u name).run P c.w = .ok (g,u') c.w ∧ V c b u' := by intro t name a g b h; cases h
 ext : FuncId → List AVal → Option AVal := fun _ _ => none
 extOk : ∀ f as r,ext f as = some r → ∀ (c : Cx) (vs : List Value),Vs c as vs → ∃ u,(callFunc f vs.toArray).run P c.w = .ok (.value u) c.w ∧ V c r u := by intro f as r h; cases h
 quiet : FuncId → Bool := fun _ => false
 quietOk : ∀ f,quiet f = true → ∃ hk,hook f = some hk ∧ ∀ lo args H r H',hk lo args H = some (r,H') → H' = H := by intro f h; cases h
def stillB (S : AStat) (g : FuncId) : Bool := S.quiet g || ((S.hook g).isNone && (S.pol g == .pure || S.pol g == .fresh))
variable (P : Program)
def szOf (t : TypeId) : Nat := P.cellsOf t
def zeroA (t : TypeId) : Option AVal := ((P.info? t).bind (·.zero)).map constA
def partA (t : TypeId) (cs : List AVal) (off : Nat) : Option AVal :=
 match P.underlying t with
 | some (.struct _) | some (.array _ _) =>
  if off + szOf P t ≤ cs.length then some (.agg ((cs.drop off).take (szOf P t))) else none
 | some _ => cs[off]?
 | none => none
def intBin (op : BinOp) (k : IntKind) (x y : Int) : Option AVal :=
 match op with
 | .add => some (.int k (k.wrap (x + y)))
 | .sub => some (.int k (k.wrap (x - y)))
 | .mul => some (.int k (k.wrap (x * y)))
 | .quo => if y = 0 then none else some (.int k (k.wrap (x.tdiv y)))
 | .rem => if y = 0 then none else some (.int k (x.tmod y))
 | .and => some (.int k (k.wrap ((BitVec.ofInt k.bits x &&& BitVec.ofInt k.bits y).toNat)))
 | .or => some (.int k (k.wrap ((BitVec.ofInt k.bits x ||| BitVec.ofInt k.bits y).toNat)))
 | .xor => some (.int k (k.wrap ((BitVec.ofInt k.bits x ^^^ BitVec.ofInt k.bits y).toNat)))
 | .andNot => some (.int k (k.wrap ((BitVec.ofInt k.bits x &&& ~~~(BitVec.ofInt k.bits y)).toNat)))
 | .eql => some (.bool (x == y))
 | .neq => some (.bool (x != y))
 | .lss => some (.bool (decide (x < y)))
 | .leq => some (.bool (decide (x ≤ y)))
 | .gtr => some (.bool (decide (x > y)))
 | .geq => some (.bool (decide (x ≥ y)))
 | _ => none
def shiftA (op : BinOp) (k : IntKind) (x y : Int) : Option AVal :=
 if y < 0 then none else
 match op with
 | .shl => some (.int k (k.wrap (x * 2 ^ (min y.toNat k.bits))))
 | .shr => some (.int k (x.fdiv (2 ^ (min y.toNat k.bits))))
 | _ => none
def strBin (op : BinOp) (x y : List UInt8) : Option AVal :=
 match op with
 | .add => if ((x.length + y.length : Nat) : Int) > IntKind.i64.max then none else some (.str (x ++ y))
 | .eql => some (.bool (x == y))
 | .neq => some (.bool (!(x == y)))
 | .lss => some (.bool (Op.bytesLess x y))
 | .leq => some (.bool (Op.bytesLess x y || x == y))
 | .gtr => some (.bool (!(Op.bytesLess x y || x == y)))
 | .geq => some (.bool (!(Op.bytesLess x y)))
 | _ => none
inductive NK where
 | p | i | s | f | m
 deriving DecidableEq
def nk : AVal → Option (NK × Bool)
 | .nilp => some (.p,true)
 | .ptr _ _ => some (.p,false)
 | .ipt _ => some (.p,false)
 | .eptr _ _ => some (.p,false)
 | .nili => some (.i,true)
 | .iface _ _ => some (.i,false)
 | .nils => some (.s,true)
 | .list _ _ _ => some (.s,false)
 | .sl _ _ _ _ _ _ => some (.s,false)
 | .nilf => some (.f,true)
 | .fn _ _ _ => some (.f,false)
 | .nilm => some (.m,true)
 | .mapr _ => some (.m,false)
 | _ => none
def nkOk (t : TypeId) : NK → Bool
 | .p => match P.underlying t with | some (.pointer _) => true | _ => false
 | .i => match P.underlying t with | some (.interface _) => true | _ => false
 | .s => match P.underlying t with | some (.slice _) => true | _ => false
 | .f => match P.underlying t with | some (.func _ _ _) => true | _ => false
 | .m => match P.underlying t with | some (.map _ _) => true | _ => false
def boolB (t : TypeId) : Bool := match P.underlying t with | some .bool => true | _ => false
def eqIface (t : TypeId) : AVal → AVal → Option Bool
 | .iface u x,.iface v y =>
  match P.underlying t with
  | some (.interface _) =>
   if u ≠ v then some false else
   match P.underlying u,x,y with
   | some (.pointer e),.eptr i _,.eptr j _ =>
    match P.info? u,P.info? e with
    | some iu,some ie => if iu.comparable = true ∧ ie.size ≠ 0 then some (i == j) else none
    | _,_ => none
   | _,_,_ => none
  | _ => none
 | _,_ => none
def eqFs (f : TypeId → AVal → AVal → Option Bool) (xs ys : List AVal) : List Field → Option Bool
 | [] => some true
 | fd :: fs =>
  if fd.name == "_" then none else
  match partA P fd.type xs fd.offset,partA P fd.type ys fd.offset with
  | some a,some b => match f fd.type a b,eqFs f xs ys fs with
   | some r,some r' => some (r && r')
   | _,_ => none
  | _,_ => none
def eqIs (f : AVal → AVal → Option Bool) (e : TypeId) (xs ys : List AVal) : List Nat → Option Bool
 | [] => some true
 | i :: is =>
  match partA P e xs (i * szOf P e),partA P e ys (i * szOf P e) with
  | some a,some b => match f a b,eqIs f e xs ys is with
   | some r,some r' => some (r && r')
   | _,_ => none
  | _,_ => none
def eqV : Nat → TypeId → AVal → AVal → Option Bool
 | 0,_,_,_ => none
 | d + 1,t,x,y =>
  match P.underlying t with
  | some .bool => match x,y with
   | .bool a,.bool b => some (a == b)
   | _,_ => none
  | some (.int _) => match x,y with
   | .int k a,.int k' b => if k = k' then some (a == b) else none
   | _,_ => none
  | some .string => match x,y with
   | .str a,.str b => some (a == b)
   | _,_ => none
  | some (.struct fs) => match x,y with
   | .agg xs,.agg ys => if P.stoodInHeld t then none else eqFs P (eqV d) xs ys fs.toList
   | _,_ => none
  | some (.array n e) => match x,y with
   | .agg xs,.agg ys => if (P.info? e).isSome then eqIs P (eqV d e) e xs ys (List.range n) else none
   | _,_ => none
  | _ => none
def eqA (t : TypeId) (lit : Bool) (x y : AVal) : Option Bool :=
 match x,y with
 | .bool a,.bool b => if boolB P t then some (a == b) else none
 | .agg xs,.agg ys => if P.eqGuardType P.depth t = false then eqV P 8 t (.agg xs) (.agg ys) else none
 | .iface u a,.iface v b => eqIface P t (.iface u a) (.iface v b)
 | x,y =>
  match nk x,nk y with
  | some (k1,n1),some (k2,n2) =>
   if k1 = k2 ∧ (n1 = true ∨ n2 = true) ∧ nkOk P t k1 = true ∧ (lit = true ∨ k1 ≠ .i ∨ n1 = false ∨ n2 = false) then some (n1 && n2) else none
  | _,_ => none
def binA (op : BinOp) (t : TypeId) (lit : Bool) (x y : AVal) : Option AVal :=
 match x,y with
 | .int k a,.int k' b =>
  match op with
  | .shl | .shr => shiftA op k a b
  | _ => if k = k' then intBin op k a b else none
 | .str a,.str b => strBin op a b
 | x,y =>
  match op with
  | .eql => (eqA P t lit x y).map .bool
  | .neq => (eqA P t lit x y).map fun b => .bool (!b)
  | _ => none
def unA (op : UnOp) (x : AVal) : Option AVal :=
 match op,x with
 | .neg,.int k n => some (.int k (k.wrap (0 - n)))
 | .xor,.int k n => some (.int k (k.wrap ((BitVec.ofInt k.bits (if k.signed then -1 else k.max) ^^^ BitVec.ofInt k.bits n).toNat)))
 | .not,.bool b => some (.bool (!b))
 | _,_ => none
def idxA : AVal → Option Nat
 | .int _ n => if 0 ≤ n then some n.toNat else none
 | _ => none
def chunk (sz : Nat) : Nat → List AVal → List (List AVal)
 | 0,_ => []
 | n + 1,cs => cs.take sz :: chunk sz n (cs.drop sz)
def fillA (place : Nat → Option (Nat × Nat)) (cells : List AVal) : List (Nat × AVal) → Option (List AVal)
 | [] => some cells
 | (i,v) :: rest =>
  match place i with
  | none => none
  | some (off,size) =>
   if v.cells.length ≠ size ∨ off + v.cells.length > cells.length ∨ !v.cells.all AVal.one then none
   else fillA place (cells.take off ++ v.cells ++ cells.drop (off + v.cells.length)) rest
def atA (H : Heap) : AVal → Option (List AVal)
 | .ipt cs => some cs
 | .eptr _ cs => some cs
 | .ptr b off => match H[b]? with
  | some (some (.cells cs)) => some (cs.drop off)
  | _ => none
 | _ => none
def loadA (t : TypeId) (H : Heap) (x : AVal) : Option AVal := (atA H x).bind fun cs => partA P t cs 0
def splice (cs : List AVal) (off : Nat) (new : List AVal) : List AVal := cs.take off ++ new ++ cs.drop (off + new.length)
def storeA (lo : Nat) (t : TypeId) (H : Heap) (x v : AVal) : Option Heap :=
 match x with
 | .ptr b off => match H[b]? with
  | some (some (.cells cs)) =>
   if lo ≤ b ∧ v.cells.length = szOf P t ∧ (P.info? t).isSome ∧ v.cells.all AVal.one ∧ off + v.cells.length ≤ cs.length then
    some (H.set b (some (.cells (splice cs off v.cells))))
   else none
  | _ => none
 | _ => none
def fieldAddrA (t : TypeId) (x : AVal) (f : Nat) : Option AVal :=
 match P.underlying t with
 | some (.struct fs) =>
  match fs[f]? with
  | some fd =>
   if (P.info? fd.type).isSome ∧ szOf P fd.type ≠ 0 then
    match x with
    | .ptr b off => some (.ptr b (off + fd.offset))
    | .ipt cs => some (.ipt (cs.drop fd.offset))
    | .eptr _ cs => some (.ipt (cs.drop fd.offset))
    | _ => none
   else none
  | none => none
 | _ => none
def fieldA (t : TypeId) (x : AVal) (f : Nat) : Option AVal :=
 match P.underlying t,x with
 | some (.struct fs),.agg cs =>
  match fs[f]? with
  | some fd => if (P.info? fd.type).isSome then partA P fd.type cs fd.offset else none
  | none => none
 | _,_ => none
def indexAddrA (t : TypeId) (x i : AVal) : Option AVal :=
 match idxA i with
 | none => none
 | some i =>
  match P.underlying t with
  | some (.array len e) =>
   if i < len ∧ (P.info? e).isSome then
    match x with
    | .ptr b off => some (.ptr b (off + i * szOf P e))
    | .ipt cs => some (.ipt (cs.drop (i * szOf P e)))
    | _ => none
   else none
  | some (.slice e) =>
   if (P.info? e).isSome then
    match x with
    | .list sz rows _ => if sz = szOf P e then (rows[i]?).map .ipt else none
    | .sl sz b off len _ _ => if sz = szOf P e ∧ i < len then some (.ptr b (off + i * sz)) else none
    | _ => none
   else none
  | _ => none
def indexA (t : TypeId) (x i : AVal) : Option AVal :=
 match idxA i with
 | none => none
 | some i =>
  match P.underlying t,x with
  | some (.array len e),.agg cs => if i < len ∧ (P.info? e).isSome then partA P e cs (i * szOf P e) else none
  | some .string,.str s => (s[i]?).map fun b => .int .u8 b.toNat
  | _,_ => none
def boundA (d y : Nat) : Option AVal → Option Nat
 | none => some d
 | some v => match idxA v with
  | some i => if i ≤ y then some i else none
  | none => none
def sliceA (t : TypeId) (H : Heap) (x : AVal) (lo hi mx : Option AVal) : Option AVal :=
 match P.underlying t with
 | some .string =>
  match x,mx with
  | .str s,none => (boundA s.length s.length hi).bind fun h => (boundA 0 h lo).map fun l => .str ((s.drop l).take (h - l))
  | _,_ => none
 | some (.slice e) =>
  if (P.info? e).isSome then
   match x,mx with
   | .nils,none => (boundA 0 0 hi).bind fun h => (boundA 0 h lo).map fun _ => .nils
   | .nils,some m => if hi.isSome then (boundA 0 0 (some m)).bind fun m => (boundA 0 m hi).bind fun h => (boundA 0 h lo).map fun _ => .nils else none
   | .list sz rows ex,none =>
    if sz = szOf P e then
     (boundA rows.length rows.length hi).bind fun h => (boundA 0 h lo).map fun l => .list sz ((rows.drop l).take (h - l)) (ex && h == rows.length)
    else none
   | .list sz rows _,some m =>
    if sz = szOf P e ∧ hi.isSome then
     (boundA 0 rows.length (some m)).bind fun m => (boundA 0 m hi).bind fun h => (boundA 0 h lo).map fun l => .list sz ((rows.drop l).take (h - l)) (h == m)
    else none
   | .sl sz b off len cap ex,none =>
    if sz = szOf P e then
     (boundA len cap hi).bind fun h => (boundA 0 h lo).map fun l => .sl sz b (off + l * sz) (h - l) (cap - l) ex
    else none
   | .sl sz b off _ cap _,some m =>
    if sz = szOf P e ∧ hi.isSome then
     (boundA 0 cap (some m)).bind fun m => (boundA 0 m hi).bind fun h => (boundA 0 h lo).map fun l => if m ≤ l then .list sz [] true else .sl sz b (off + l * sz) (h - l) (m - l) true
    else none
   | _,_ => none
  else none
 | some (.array n e) =>
  if (P.info? e).isSome ∧ mx.isNone then
   match x with
   | .ptr b off => match H[b]? with
    | some (some (.cells cs)) =>
     if off + n * szOf P e ≤ cs.length then (boundA n n hi).bind fun h => (boundA 0 h lo).map fun l => .sl (szOf P e) b (off + l * szOf P e) (h - l) (n - l) true
     else none
    | _ => none
   | .ipt cs => if n * szOf P e ≤ cs.length then (boundA n n hi).bind fun h => (boundA 0 h lo).map fun l => .list (szOf P e) (chunk (szOf P e) (h - l) (cs.drop (l * szOf P e))) (h == n) else none
   | _ => none
  else none
 | _ => none
def rowsA (H : Heap) (sz : Nat) : AVal → Option (List (List AVal))
 | .nils => some []
 | .list s rows _ => if s = sz then some rows else none
 | .str s => if sz = 1 then some (s.map fun b => [.int .u8 b.toNat]) else none
 | .sl s b off len _ _ => if s = sz then
  match H[b]? with
  | some (some (.cells cs)) => if off + len * sz ≤ cs.length then some (chunk sz len (cs.drop off)) else none
  | _ => none
  else none
 | _ => none
def lenA (t : TypeId) (H : Heap) (x : AVal) : Option AVal :=
 match P.underlying t,x with
 | some .string,.str s => some (.int .i64 s.length)
 | some (.array _ _),.mapr _ => none
 | some (.array n _),_ => some (.int .i64 n)
 | some (.slice _),.nils => some (.int .i64 0)
 | some (.slice _),.list _ rows _ => some (.int .i64 rows.length)
 | some (.slice _),.sl _ _ _ len _ _ => some (.int .i64 len)
 | some (.map _ _),.nilm => some (.int .i64 0)
 | some (.map _ _),.mapr b => match H[b]? with
  | some (some (.mp es)) => some (.int .i64 es.length)
  | _ => none
 | _,_ => none
def zeroFits (e : TypeId) : Bool :=
 match zeroA P e with
 | some z => z.cells.length == szOf P e && z.cells.all AVal.one
 | none => false
def notIntB (u : TypeId) : Bool :=
 match P.underlying u with
 | some (.int _) | none => false
 | _ => true
def appendA (lo : Nat) (t u : TypeId) (H : Heap) (s x : AVal) : Option (AVal × Heap) :=
 match P.underlying t with
 | some (.slice e) =>
  let sz := szOf P e
  if (P.info? e).isSome ∧ sz ≠ 0 ∧ notIntB P u = true ∧ zeroFits P e = true ∧ P.bytesOf e ≠ 0 then
   match rowsA H sz x with
   | none => none
   | some rows =>
    let new := rows.flatten
    let n := rows.length
    if !(new.all AVal.one) then none else
    match s with
    | .nils =>
     if n = 0 then some (.nils,H)
     else if n * P.bytesOf e ≤ 140737488355328 then some (.sl sz H.length 0 n n false,H ++ [some (.cells new)])
     else none
    | .list s0 rs ex =>
     if s0 ≠ sz then none else
     if n = 0 then some (.list s0 rs ex,H)
     else if ex ∧ (rs.flatten).all AVal.one ∧ (rs.length + n) * P.bytesOf e ≤ 140737488355328 then some (.sl sz H.length 0 (rs.length + n) (rs.length + n) false,H ++ [some (.cells (rs.flatten ++ new))])
     else none
    | .sl s0 b off len cap ex =>
     if s0 ≠ sz then none else
     match H[b]? with
     | some (some (.cells cs)) =>
      if off + len * sz ≤ cs.length then
       if n = 0 then some (.sl s0 b off len cap ex,H)
       else if len + n ≤ cap then
        if lo ≤ b ∧ off + (len + n) * sz ≤ cs.length then some (.sl sz b off (len + n) cap ex,H.set b (some (.cells (splice cs (off + len * sz) new))))
        else none
       else if (len + n) * P.bytesOf e ≤ 140737488355328 then
        if ex then some (.sl sz H.length 0 (len + n) (len + n) false,H ++ [some (.cells ((cs.drop off).take (len * sz) ++ new))])
        else if lo ≤ b ∧ off + len * sz = cs.length then some (.sl sz H.length 0 (len + n) (len + n) false,H.set b none ++ [some (.cells (cs.drop off ++ new))])
        else none
       else none
      else none
     | _ => none
    | _ => none
  else none
 | _ => none
def makeSliceA (t : TypeId) (l c : AVal) : Option (ABlk × (Nat → AVal)) :=
 match P.underlying t,idxA l,idxA c with
 | some (.slice e),some l,some c =>
  match zeroA P e with
  | some z =>
   if l ≤ c ∧ c * P.bytesOf e ≤ 281474976710656 ∧ c ≤ 9223372036854775807 ∧ z.cells.length = szOf P e ∧ szOf P e ≠ 0 ∧ z.cells.all AVal.one then
    some (.cells ((List.replicate c z.cells).flatten),fun id => .sl (szOf P e) id 0 l c true)
   else none
  | none => none
 | _,_,_ => none
def convA (src dst : TypeId) (x : AVal) : Option AVal :=
 match P.underlying src,P.underlying dst,x with
 | some _,some (.int k),.int _ n => some (.int k (k.wrap n))
 | some _,some .string,.str s => some (.str s)
 | _,_,_ => none
def slBlk : AVal → Option Nat
 | .sl _ b _ _ _ _ => some b
 | _ => none
def bytesOf? : List (List AVal) → Option (List UInt8)
 | [] => some []
 | [.int .u8 n] :: rs => (bytesOf? rs).map (UInt8.ofNat n.toNat :: ·)
 | _ => none
def strOfA (s d : TypeId) (H : Heap) (x : AVal) : Option AVal :=
 match P.underlying s,P.underlying d with
 | some (.slice e),some .string =>
  match P.underlying e,x with
  | some (.int .u8),.nils => some (.str [])
  | some (.int .u8),.list sz rows _ => if sz = 1 then (bytesOf? rows).map .str else none
  | some (.int .u8),.sl sz b off len _ _ =>
   if sz = 1 then
    match H[b]? with
    | some (some (.cells cs)) => if off + len ≤ cs.length then (bytesOf? (chunk 1 len (cs.drop off))).map .str else none
    | _ => none
   else none
  | _,_ => none
 | _,_ => none
def bytesA (s d : TypeId) (H : Heap) (x : AVal) : Option (AVal × Heap) :=
 match P.underlying s,P.underlying d,x with
 | some .string,some (.slice e),.str t =>
  match P.underlying e with
  | some (.int .u8) => some (.sl 1 H.length 0 t.length t.length false,H ++ [some (.cells (t.map fun b => .int .u8 b.toNat))])
  | _ => none
 | _,_,_ => none
def convHA (s d : TypeId) (H : Heap) (x : AVal) : Option AVal :=
 match convA P s d x with
 | some v => some v
 | none => strOfA P s d H x
def allocA (t : TypeId) : Option (ABlk × (Nat → AVal)) :=
 match zeroA P t with
 | some z => if z.cells.all AVal.one then some (.cells z.cells,fun id => .ptr id 0) else none
 | none => none
def boxA (x : AVal) : Option (ABlk × (Nat → AVal)) :=
 if x.cells.all AVal.one then some (.cells x.cells,fun id => .ptr id 0) else none
def buildA (t : TypeId) (parts : List (Nat × AVal)) : Option AVal :=
 match zeroA P t with
 | none => none
 | some z =>
  if !z.cells.all AVal.one then none else
  match P.underlying t with
  | some (.struct fs) =>
   if fs.all (fun f => (P.info? f.type).isSome) then (fillA (fun i => (fs[i]?).map fun f => (f.offset,szOf P f.type)) z.cells parts).map .agg else none
  | some (.array _ e) => if (P.info? e).isSome then (fillA (fun i => some (i * szOf P e,szOf P e)) z.cells parts).map .agg else none
  | _ => none
def buildSliceA (t : TypeId) (len : Nat) (parts : List (Nat × AVal)) : Option (ABlk × (Nat → AVal)) :=
 match P.underlying t with
 | some (.slice e) =>
  match zeroA P e with
  | none => none
  | some z =>
   if z.cells.length = szOf P e ∧ szOf P e ≠ 0 ∧ z.cells.all AVal.one ∧ len * szOf P e ≤ 16777216 then
    (fillA (fun i => some (i * szOf P e,szOf P e)) ((List.replicate len z.cells).flatten) parts).map fun cs => (.cells cs,fun id => .sl (szOf P e) id 0 len len false)
   else none
 | _ => none
def intsEq : List AVal → List AVal → Option Bool
 | [],[] => some true
 | .int k x :: xs,.int k' y :: ys => if k = k' then (if x = y then intsEq xs ys else some false) else none
 | _,_ => none
def intB : AVal → Bool
 | .int _ _ => true
 | _ => false
inductive KeyKind where
 | int | str | ints (n : Nat) (e : TypeId)
def keyKind (t : TypeId) : Option KeyKind :=
 match P.underlying t with
 | some (.int _) => some .int
 | some .string => some .str
 | some (.array n e) =>
  match P.underlying e with
  | some (.int _) => if szOf P e = 1 then some (.ints n e) else none
  | _ => none
 | _ => none
def keyOk : KeyKind → AVal → Bool
 | .int,.int _ _ => true
 | .str,.str _ => true
 | .ints n _,.agg cs => cs.length == n && cs.all intB
 | _,_ => false
def keyEq : KeyKind → AVal → AVal → Option Bool
 | .int,.int k x,.int k' y => if k = k' then some (x == y) else none
 | .str,.str x,.str y => some (x == y)
 | .ints n _,.agg xs,.agg ys => if xs.length = n ∧ ys.length = n then intsEq xs ys else none
 | _,_,_ => none
def findA (k : KeyKind) (x : AVal) : List (AVal × AVal) → Nat → Option (Option (Nat × AVal))
 | [],_ => some none
 | (y,v) :: es,i =>
  match keyEq k x y with
  | none => none
  | some true => some (some (i,v))
  | some false => findA k x es (i + 1)
def lookupA (t : TypeId) (H : Heap) (m x : AVal) (ok : Bool) : Option AVal :=
 match P.underlying t with
 | some (.map kt et) =>
  match keyKind P kt,zeroA P et with
  | some k,some z =>
   if keyOk k x then
    match m with
    | .nilm => some (if ok then .tup [z,.bool false] else z)
    | .mapr b =>
     match H[b]? with
     | some (some (.mp es)) =>
      match findA k x es 0 with
      | some (some (_,v)) => some (if ok then .tup [v,.bool true] else v)
      | some none => some (if ok then .tup [z,.bool false] else z)
      | none => none
     | _ => none
    | _ => none
   else none
  | _,_ => none
 | _ => none
def mapUpdateA (lo : Nat) (t : TypeId) (H : Heap) (m x v : AVal) : Option Heap :=
 match P.underlying t with
 | some (.map kt _) =>
  match keyKind P kt with
  | some k =>
   if keyOk k x then
    match m with
    | .mapr b =>
     if lo ≤ b then
      match H[b]? with
      | some (some (.mp es)) =>
       match findA k x es 0 with
       | some (some (i,_)) => some (H.set b (some (.mp (es.set i (x,v)))))
       | some none => some (H.set b (some (.mp (es ++ [(x,v)]))))
       | none => none
      | _ => none
     else none
    | _ => none
   else none
  | none => none
 | _ => none
def ifaceB (t : TypeId) : Bool :=
 match P.underlying t with
 | some (.interface _) => true
 | none => true
 | _ => false
def litB : Operand → Bool
 | .const _ => true
 | _ => false
def lacksA (want : Array (String × TypeId)) (got : Array Method) : Bool :=
 want.toList.any fun m => !got.any fun n => n.name == m.1 && n.sig == m.2
def typeAssertA (x : AVal) (t : TypeId) (ok : Bool) : Option AVal :=
 match x with
 | .nili => if ok ∧ (P.underlying t).isSome then (zeroA P t).map fun z => .tup [z,.bool false] else none
 | .iface u v =>
  match P.underlying t with
  | some (.interface want) =>
   match P.info? u with
   | some i =>
    if lacksA want i.methods then (if ok then (zeroA P t).map fun z => .tup [z,.bool false] else none)
    else some (if ok then .tup [.iface u v,.bool true] else .iface u v)
   | none => none
  | some _ =>
   if u = t then some (if ok then .tup [v,.bool true] else v)
   else if ok then (zeroA P t).map fun z => .tup [z,.bool false] else none
  | none => none
 | _ => none
def evalA (S : AStat) (ρ : List AVal) : Operand → AVal
 | .tmp t => ρ.getD t undefA
 | .const v => constA v
 | .global g => match S.glob g with
  | some cs => .ipt cs
  | none => .junk
 | .func f => .fn (.func f) [] []
def rangeA (P : Program) (t : TypeId) (x : AVal) : Option (ABlk × (Nat → AVal)) :=
 match P.underlying t,x with
 | some .string,.str s => some (.it s 0,fun id => .ptr id 0)
 | _,_ => none
def nextA (lo : Nat) (H : Heap) (x : AVal) (isString : Bool) : Option (AVal × Heap) :=
 match x,isString with
 | .ptr b 0,true =>
  match H[b]? with
  | some (some (.it s pos)) =>
   if lo ≤ b then
    match s[pos]? with
    | none => some (.tup [.bool false],H)
    | some c => if c < 128 then some (.tup [.bool true,.int .i64 pos,.int .i32 c.toNat],H.set b (some (.it s (pos + 1)))) else none
   else none
  | _ => none
 | .ptr b 0,false =>
  match H[b]? with
  | some (some (.mi m since seen last)) =>
   match H[m]? with
   | some (some (.mp es)) =>
    if lo ≤ b ∧ (seen = [] ∨ es = [] ∨ 0 < last) then
     match (List.range' 0 es.length).filter fun j => !seen.contains j with
     | [] => some (.tup [.bool false],H)
     | [j] => if j < since then (match es[j]? with
      | some (k,v) => some (.tup [.bool true,k,v],H.set b (some (.mi m since (seen ++ [j]) es.length)))
      | none => none) else none
     | _ => none
    else none
   | _ => none
  | _ => none
 | _,_ => none
def rangeMA (P : Program) (t : TypeId) (H : Heap) (x : AVal) : Option (AVal × Heap) :=
 match P.underlying t,x with
 | some (.map _ _),.mapr b =>
  match H[b]? with
  | some (some (.mp es)) => some (.ptr H.length 0,H ++ [some (.mi b es.length [] es.length)])
  | _ => none
 | _,_ => none
def entryA (H : Heap) (x : AVal) : Option AVal :=
 match x with
 | .ptr b 0 =>
  match H[b]? with
  | some (some (.mi m since seen last)) =>
   match seen.getLast?,H[m]? with
   | some j,some (some (.mp es)) => if last = es.length then (es[j]?).map fun p => .tup [p.1,p.2] else none
   | _,_ => none
  | _ => none
 | _ => none
def newA (S : AStat) (ρ : List AVal) : Op → Option (ABlk × (Nat → AVal))
 | .alloc t => allocA S.P t
 | .box _ x => boxA (evalA S ρ x)
 | .buildSlice t len parts => buildSliceA S.P t len (parts.toList.map fun p => (p.1,evalA S ρ p.2))
 | .makeSlice t l c => makeSliceA S.P t (evalA S ρ l) (evalA S ρ c)
 | .makeMap _ none => some (.mp [],fun id => .mapr id)
 | .range t x => rangeA S.P t (evalA S ρ x)
 | _ => none
def nilCheckA : AVal → Option AVal
 | .ptr b off => some (.ptr b off)
 | .ipt cs => some (.ipt cs)
 | .eptr id cs => some (.eptr id cs)
 | .fn (.func f) a b => some (.fn (.func f) a b)
 | _ => none
def quietA (S : AStat) (ρ : List AVal) (H : Heap) : Op → Option AVal
 | .move x | .assign x => some (evalA S ρ x)
 | .pick c a b => match evalA S ρ c with
  | .bool true => some (evalA S ρ a)
  | .bool false => some (evalA S ρ b)
  | _ => none
 | .build t parts => buildA S.P t (parts.toList.map fun p => (p.1,evalA S ρ p.2))
 | .load t x => loadA S.P t H (evalA S ρ x)
 | .nilCheck x => nilCheckA (evalA S ρ x)
 | .binOp op t x y _ => binA S.P op t (litB x || litB y) (evalA S ρ x) (evalA S ρ y)
 | .unOp op _ x => unA op (evalA S ρ x)
 | .convert s d x => convHA S.P s d H (evalA S ρ x)
 | .makeInterface t x => if ifaceB S.P t then none else some (.iface t (evalA S ρ x))
 | .makeFunc f first captured => some (.fn f (first.toList.map (evalA S ρ)) (captured.toList.map (evalA S ρ)))
 | .slice t x lo hi mx => sliceA S.P t H (evalA S ρ x) (lo.map (evalA S ρ)) (hi.map (evalA S ρ)) (mx.map (evalA S ρ))
 | .fieldAddr t x f => fieldAddrA S.P t (evalA S ρ x) f
 | .field t x f => fieldA S.P t (evalA S ρ x) f
 | .indexAddr t x i => indexAddrA S.P t (evalA S ρ x) (evalA S ρ i)
 | .index t x i => indexA S.P t (evalA S ρ x) (evalA S ρ i)
 | .lookup t m x ok => lookupA S.P t H (evalA S ρ m) (evalA S ρ x) ok
 | .extract x i => match evalA S ρ x with
  | .tup vs => vs[i]?
  | _ => none
 | .call { callee := .builtin .len,args := args,argTypes := ts } =>
  match ts[0]?,args[0]? with
  | some t,some x => lenA S.P t H (evalA S ρ x)
  | _,_ => none
 | .call { callee := .builtin .min,args := args,.. } =>
  match args.toList.map (evalA S ρ) with
  | [.int k x,.int _ y] => some (.int k (if y < x then y else x))
  | _ => none
 | .call { callee := .builtin .max,args := args,.. } =>
  match args.toList.map (evalA S ρ) with
  | [.int k x,.int _ y] => some (.int k (if x < y then y else x))
  | _ => none
 | .typeAssert x _ t ok => typeAssertA S.P (evalA S ρ x) t ok
 | _ => none
end Go.Am

/- That the model's operations keep to the idealised ones: operations that leave all memory as it is. Generic: over any program. -/
namespace Go.Am
open Go.RowKit
theorem Vs_get {c : Cx} : ∀ {as : List AVal} {vs : List Value} {i : Nat} {a : AVal},Vs c as vs → as[i]? = some a → ∃ v,vs[i]? = some v ∧ V c a v
 | [],_,_,_,_,h => by simp at h
 | x :: as,_,0,a,hv,h => by
  simp only [Vs] at hv
  obtain ⟨v,us,rfl,h1,_⟩ := hv
  simp at h
  subst h
  exact ⟨v,rfl,h1⟩
 | x :: as,_,i + 1,a,hv,h => by
  simp only [Vs] at hv
  obtain ⟨v,us,rfl,_,h2⟩ := hv
  simp at h
  obtain ⟨u,h3,h4⟩ := Vs_get h2 h
  exact ⟨u,by simpa using h3,h4⟩
theorem Vs_take {c : Cx} : ∀ {as : List AVal} {vs : List Value} (n : Nat),Vs c as vs → Vs c (as.take n) (vs.take n)
 | [],_,n,h => by simp [Vs] at h; subst h; simp [Vs]
 | a :: as,_,0,_ => by simp [Vs]
 | a :: as,_,n + 1,h => by
  simp only [Vs] at h
  obtain ⟨v,us,rfl,h1,h2⟩ := h
  simp only [List.take_succ_cons,Vs]
  exact ⟨v,_,rfl,h1,Vs_take n h2⟩
theorem Vs_drop {c : Cx} : ∀ {as : List AVal} {vs : List Value} (n : Nat),Vs c as vs → Vs c (as.drop n) (vs.drop n)
 | [],_,n,h => by simp [Vs] at h; subst h; simp [Vs]
 | a :: as,_,0,h => by simpa using h
 | a :: as,_,n + 1,h => by
  simp only [Vs] at h
  obtain ⟨v,us,rfl,h1,h2⟩ := h
  simpa using Vs_drop n h2
theorem Vs_append {c : Cx} : ∀ {as bs : List AVal} {vs us : List Value},Vs c as vs → Vs c bs us → Vs c (as ++ bs) (vs ++ us)
 | [],_,_,_,h,k => by simp [Vs] at h; subst h; simpa using k
 | a :: as,_,_,_,h,k => by
  simp only [Vs] at h
  obtain ⟨v,us,rfl,h1,h2⟩ := h
  simp only [List.cons_append,Vs]
  exact ⟨v,_,rfl,h1,Vs_append h2 k⟩
theorem Vs_set {c : Cx} : ∀ {as : List AVal} {vs : List Value} {i : Nat} {a : AVal} {v : Value},Vs c as vs → V c a v → Vs c (as.set i a) (vs.set i v)
 | [],_,_,_,_,h,_ => by simp [Vs] at h; subst h; simp [Vs]
 | x :: as,_,0,a,v,h,k => by
  simp only [Vs] at h
  obtain ⟨u,us,rfl,h1,h2⟩ := h
  simp only [List.set_cons_zero,Vs]
  exact ⟨v,us,rfl,k,h2⟩
 | x :: as,_,i + 1,a,v,h,k => by
  simp only [Vs] at h
  obtain ⟨u,us,rfl,h1,h2⟩ := h
  simp only [List.set_cons_succ,Vs]
  exact ⟨u,_,rfl,h1,Vs_set h2 k⟩
theorem Vs_map {c : Cx} {β : Type} (f : β → AVal) (g : β → Value) (h : ∀ x,V c (f x) (g x)) : ∀ l : List β,Vs c (l.map f) (l.map g)
 | [] => by simp [Vs]
 | x :: l => by
  simp only [List.map_cons,Vs]
  exact ⟨_,_,rfl,h x,Vs_map f g h l⟩
theorem Vs_replicate {c : Cx} {a : AVal} {v : Value} (h : V c a v) : ∀ n,Vs c (List.replicate n a) (List.replicate n v)
 | 0 => by simp [Vs]
 | n + 1 => by
  simp only [List.replicate_succ,Vs]
  exact ⟨_,_,rfl,h,Vs_replicate h n⟩
theorem leafA_V (c : Cx) : ∀ v : Value,V c (leafA v) v
 | .bool b => by simp [leafA,V]
 | .int k n => by simp [leafA,V]
 | .string s => by simp only [leafA,V]; exact ⟨s,rfl,rfl⟩
 | .pointer none => by simp [leafA,V]
 | .pointer (some a) => by simp [leafA,V]
 | .slice a n m => by
  unfold leafA
  split <;> simp_all [V]
 | .map none => by simp [leafA,V]
 | .map (some a) => by simp [leafA,V]
 | .nilFunc => by simp [leafA,V]
 | .nilIface => by simp [leafA,V]
 | .iface t v => by
  simp only [leafA,V]
  exact ⟨v,rfl,leafA_V c v⟩
 | .func f a b => by
  simp only [leafA]
  split
  ·rename_i h
   simp only [qj,Array.isEmpty_iff] at h
   obtain ⟨rfl,rfl⟩ := h
   simp only [V]
   exact ⟨[],[],rfl,by simp [Vs],by simp [Vs]⟩
  ·simp [V]
 | .float _ _ => by simp [leafA,V]
 | .complex _ _ _ => by simp [leafA,V]
 | .chan _ => by simp [leafA,V]
 | .agg _ => by simp [leafA,V]
 | .tuple _ => by simp [leafA,V]
theorem constA_V (c : Cx) (v : Value) : V c (constA v) v := by
 cases v with
 | agg cs =>
  simp only [constA,V]
  refine ⟨cs.toList,rfl, ?_⟩
  have := Vs_map (c := c) leafA id (fun x => leafA_V c x) cs.toList
  simpa using this
 | _ => exact leafA_V c _
structure GlobOk (S : AStat) (c : Cx) : Prop where
 v : ∀ g cs,S.glob g = some cs → V c (.ipt cs) (.pointer (some ⟨g,0,none⟩))
 t : ∀ p ∈ S.tab,c.I p.1 ∧ ∃ t fr,c.w.heap[p.1]? = some (.cells p.2 t fr)
theorem GlobOk.ext {S : AStat} {c c' : Cx} (h : Ext c c') (hG : GlobOk S c) : GlobOk S c' :=
 ⟨fun g cs hg => V_ext h _ _ (hG.v g cs hg),fun p hp => by
  obtain ⟨h1,h2⟩ := hG.t p hp
  exact ⟨h.I _ h1,by rw [h.kept _ h1]; exact h2⟩⟩
theorem Vs_getD {c : Cx} {as : List AVal} {vs : List Value} (h : Vs c as vs) (i : Nat) : V c (as.getD i undefA) (vs.getD i undef) := by
 cases ha : as[i]? with
 | none =>
  have hl := Vs_length h
  have : vs[i]? = none := by
   rw [List.getElem?_eq_none_iff] at ha ⊢
   omega
  simp only [List.getD,ha,this,Option.getD_none,undefA,V]
  exact ⟨[],rfl,by simp [Vs]⟩
 | some a =>
  obtain ⟨v,h1,h2⟩ := Vs_get h ha
  simpa [List.getD,ha,h1] using h2
theorem evalA_V {S : AStat} {c : Cx} {ρ : List AVal} {a : Act} (hG : GlobOk S c) (hρ : Vs c ρ a.tmps.toList) (x : Operand) : V c (evalA S ρ x) (a.eval x) := by
 cases x with
 | tmp t =>
  have := Vs_getD hρ t
  simpa [evalA,Act.eval,qy,List.getD] using this
 | const v => exact constA_V c v
 | global g =>
  simp only [evalA,Act.eval]
  split
  ·rename_i cs h
   exact hG.v g cs h
  ·simp [V]
 | func f =>
  simp only [evalA,Act.eval,V]
  exact ⟨[],[],rfl,by simp [Vs],by simp [Vs]⟩
theorem cells_Vs {c : Cx} {a : AVal} {v : Value} (h : V c a v) (hj : a.cells.all AVal.one = true) : Vs c a.cells v.cells.toList := by
 cases a with
 | agg cs =>
  simp only [V] at h
  obtain ⟨vs,rfl,h⟩ := h
  simpa [AVal.cells,Value.cells] using h
 | tup _ => simp [AVal.cells,AVal.one] at hj
 | junk => simp [AVal.cells,AVal.one] at hj
 | _ =>
  have : v.cells = #[v] := by
   simp only [V] at h
   rcases v with _ | _ | _ | _ | _ | _ | _ | _ | _ | _ | _ | _ | _ | _ | _ <;> first | rfl | (exfalso; simp at h)
  simp only [AVal.cells,this,Vs]
  exact ⟨v,[],rfl,h,rfl⟩
theorem one_of_V {c : Cx} {a : AVal} {v : Value} (h : V c a v) (ho : a.one = true) : v.oneCell' = true := by
 cases a <;> simp [AVal.one] at ho <;> simp only [V] at h <;>
  rcases v with _ | _ | _ | _ | _ | _ | _ | _ | _ | _ | _ | _ | _ | _ | _ <;> first | rfl | (exfalso; simp at h)
theorem ones_of_Vs {c : Cx} : ∀ {as : List AVal} {vs : List Value},Vs c as vs → as.all AVal.one = true → ∀ v ∈ vs,v.oneCell' = true
 | [],_,h,_,v,hv => by simp [Vs] at h; subst h; cases hv
 | a :: as,_,h,ho,v,hv => by
  simp only [Vs] at h
  obtain ⟨u,us,rfl,h1,h2⟩ := h
  simp only [List.all_cons,qj] at ho
  rcases List.mem_cons.1 hv with rfl | hv
  ·exact one_of_V h1 ho.1
  ·exact ones_of_Vs h2 ho.2 v hv
variable {P : Program}
def aggD : TypeDesc → Bool
 | .struct _ => true
 | .array _ _ => true
 | _ => false
theorem run_isAgg {t : TypeId} {d : TypeDesc} (h : P.underlying t = some d) (w : World) : (isAgg t).run P w = .ok (aggD d) w := by
 simp only [isAgg,Sem.run_bind,run_underlying h,Result.andThen_ok]
 cases d <;> rfl
theorem run_typeInfo {t : TypeId} {i : TypeInfo} (h : P.info? t = some i) (w : World) : (typeInfo t).run P w = .ok i w := by
 simp [typeInfo,h]
theorem run_zeroValue {c : Cx} {t : TypeId} {z : AVal} (h : zeroA P t = some z) (w : World) : ∃ v,(zeroValue t).run P w = .ok v w ∧ V c z v := by
 unfold zeroA at h
 rw [qd] at h
 obtain ⟨v,hv,rfl⟩ := h
 rw [Option.bind_eq_some_iff] at hv
 obtain ⟨i,hi,hz⟩ := hv
 exact ⟨v,by simp [zeroValue,run_typeInfo hi,hz],constA_V c v⟩
theorem run_sizeOf {t : TypeId} (h : (P.info? t).isSome = true) (w : World) : (sizeOf t).run P w = .ok (szOf P t) w := by
 obtain ⟨i,hi⟩ := Option.isSome_iff_exists.1 h
 simp [sizeOf,run_typeInfo hi,szOf,Program.cellsOf,hi]
theorem info_of_underlying {t : TypeId} {d : TypeDesc} (h : P.underlying t = some d) : (P.info? t).isSome = true := by
 unfold Program.underlying at h
 cases hi : P.info? t with
 | none => simp [hi] at h
 | some i => rfl
theorem partA_sim {c : Cx} {t : TypeId} {cs : List AVal} {vs : List Value} {off : Nat} {r : AVal} (h : partA P t cs off = some r) (hv : Vs c cs vs) (w : World) :
 ∃ v,(part t vs.toArray off).run P w = .ok v w ∧ V c r v := by
 unfold partA at h
 have agg : ∀ d,P.underlying t = some d → aggD d = true → (if off + szOf P t ≤ cs.length then some (AVal.agg ((cs.drop off).take (szOf P t))) else none) = some r →
  ∃ v,(part t vs.toArray off).run P w = .ok v w ∧ V c r v := by
  intro d hd hb hr
  split at hr
  ·simp only [qa] at hr
   subst hr
   refine ⟨.agg ((vs.drop off).take (szOf P t)).toArray, ?_, ?_⟩
   ·simp only [part,Sem.run_bind,run_isAgg hd,Result.andThen_ok,hb,if_true,run_sizeOf (info_of_underlying hd),Sem.run_pure]
    congr 2
    apply Array.ext'
    simp [List.extract_eq_take_drop]
   ·simp only [V]
    exact ⟨_,rfl,Vs_take _ (Vs_drop _ hv)⟩
  ·cases hr
 split at h
 ·rename_i fs hd
  exact agg _ hd rfl h
 ·rename_i n e hd
  exact agg _ hd rfl h
 ·rename_i d hns hna hd
  obtain ⟨v,h1,h2⟩ := Vs_get hv h
  refine ⟨v, ?_,h2⟩
  have hb : aggD d = false := by
   cases d <;> first | rfl | (exact absurd rfl (hns _)) | (exact absurd rfl (hna _ _))
  simp [part,run_isAgg hd,hb,h1]
 ·cases h
theorem add_plain (B o n : Nat) : (⟨B,o,none⟩ : Addr).add n = ⟨B,o + n,none⟩ := by
 unfold Addr.add
 split
 ·rename_i h; subst h; rfl
 ·rfl
theorem run_loadVar {c : Cx} {t : TypeId} {cs : List AVal} {vs : List Value} {r : AVal} {w : World} {B o : Nat} (h : partA P t cs 0 = some r) (hv : Vs c cs vs) (ha : At w B o vs) :
 ∃ v,(loadVar t ⟨B,o,none⟩).run P w = .ok v w ∧ V c r v := by
 unfold partA at h
 have agg : ∀ d,P.underlying t = some d → aggD d = true → (if 0 + szOf P t ≤ cs.length then some (AVal.agg ((cs.drop 0).take (szOf P t))) else none) = some r →
  ∃ v,(loadVar t ⟨B,o,none⟩).run P w = .ok v w ∧ V c r v := by
  intro d hd hb hr
  split at hr
  ·rename_i hle
   simp only [qa,List.drop_zero] at hr
   subst hr
   have hl := Vs_length hv
   refine ⟨.agg (vs.take (szOf P t)).toArray, ?_, ?_⟩
   ·have hc := run_loadCells_list (P := P) w ⟨B,o,none⟩ (vs.take (szOf P t)) (by
     intro j v hj
     rw [qx] at hj
     split at hj
     ·rw [add_plain]; exact ha j v hj
     ·cases hj)
    have e : (vs.take (szOf P t)).length = szOf P t := by simp; omega
    rw [e] at hc
    simp only [loadVar,Sem.run_bind,run_isAgg hd,Result.andThen_ok,hb,if_true,run_sizeOf (info_of_underlying hd),hc,Sem.run_pure]
   ·simp only [V]
    exact ⟨_,rfl,Vs_take _ hv⟩
  ·cases hr
 split at h
 ·rename_i fs hd
  exact agg _ hd rfl h
 ·rename_i n e hd
  exact agg _ hd rfl h
 ·rename_i d hns hna hd
  obtain ⟨v,h1,h2⟩ := Vs_get hv h
  refine ⟨v, ?_,h2⟩
  have hb : aggD d = false := by
   cases d <;> first | rfl | (exact absurd rfl (hns _)) | (exact absurd rfl (hna _ _))
  have := ha 0 v h1
  simp only [Nat.add_zero] at this
  simp [loadVar,run_isAgg hd,hb,this]
 ·cases h
theorem At_drop {w : World} {B o : Nat} {vs : List Value} (n : Nat) (h : At w B o vs) : At w B (o + n) (vs.drop n) := by
 intro j v hj
 rw [qw] at hj
 have := h (n + j) v hj
 rw [show o + n + j = o + (n + j) by omega]
 exact this
theorem At_take {w : World} {B o : Nat} {vs : List Value} (n : Nat) (h : At w B o vs) : At w B o (vs.take n) := by
 intro j v hj
 rw [qx] at hj
 split at hj
 ·exact h j v hj
 ·cases hj
theorem atA_sim {c : Cx} {H : Heap} (hR : Rel c H) {x : AVal} {v : Value} {cs : List AVal} (h : atA H x = some cs) (hv : V c x v) :
 ∃ B o vs,v = .pointer (some ⟨B,o,none⟩) ∧ At c.w B o vs ∧ Vs c cs vs := by
 cases x <;> simp only [atA] at h <;> first | cases h | skip
 case ipt =>
  simp only [V] at hv
  obtain ⟨B,off,vs,e,_,ha,hvs⟩ := hv
  exact ⟨B,off,vs,e,ha,Vs_ext (Ext.of_pure c) _ _ hvs⟩
 case eptr =>
  simp only [V] at hv
  obtain ⟨B,o,vs,_,_,e,_,ha,hvs,_⟩ := hv
  exact ⟨B,o,vs,e,ha,Vs_ext (Ext.of_pure c) _ _ hvs⟩
 case ptr b off =>
  split at h
  ·rename_i cs' hb
   simp only [qa] at h
   subst h
   simp only [V] at hv
   obtain ⟨B,base,hi,e⟩ := hv
   obtain ⟨B',base',h1,_,_,h2⟩ := hR.blk b _ hb
   rw [hi] at h1
   simp only [qa,qe] at h1
   obtain ⟨rfl,rfl⟩ := h1
   obtain ⟨_,_,vs,ha,hvs⟩ := h2
   exact ⟨B,base + off,vs.drop off,e,At_drop off ha,Vs_drop off hvs⟩
  ·cases h
theorem loadA_sim {c : Cx} {H : Heap} (hR : Rel c H) {t : TypeId} {x r : AVal} {v : Value} (h : loadA P t H x = some r) (hv : V c x v) :
 ∃ u,(Instr.loadAt t v).run P c.w = .ok u c.w ∧ V c r u := by
 unfold loadA at h
 rw [Option.bind_eq_some_iff] at h
 obtain ⟨cs,h1,h2⟩ := h
 obtain ⟨B,o,vs,rfl,ha,hvs⟩ := atA_sim hR h1 hv
 obtain ⟨u,h3,h4⟩ := run_loadVar h2 hvs ha
 exact ⟨u,by simp [Instr.loadAt,Instr.sureAddr,h3],h4⟩
theorem fieldAddrA_sim {c : Cx} {t : TypeId} {x r : AVal} {v : Value} {f : Nat} (h : fieldAddrA P t x f = some r) (hv : V c x v) (w : World) :
 ∃ u,(Instr.fieldAt t v f).run P w = .ok u w ∧ V c r u := by
 unfold fieldAddrA at h
 split at h
 ·rename_i fs hd
  split at h
  ·rename_i fd hf
   split at h
   ·rename_i hok
    have hpl : ∀ B o,(fieldPlace ⟨B,o,none⟩ fd).run P w = .ok ⟨B,o + fd.offset,none⟩ w := by
     intro B o
     simp [fieldPlace,run_sizeOf hok.1,hok.2,add_plain]
    split at h
    ·rename_i b off
     simp only [qa] at h
     subst h
     simp only [V] at hv
     obtain ⟨B,base,hi,rfl⟩ := hv
     refine ⟨.pointer (some ⟨B,base + (off + fd.offset),none⟩), ?_, ?_⟩
     ·simp [Instr.fieldAt,run_underlying hd,hf,Instr.sureAddr,hpl,Nat.add_assoc]
     ·simp only [V]
      exact ⟨B,base,hi,rfl⟩
    ·rename_i cs
     simp only [qa] at h
     subst h
     simp only [V] at hv
     obtain ⟨B,o,vs,rfl,hI,ha,hvs⟩ := hv
     refine ⟨.pointer (some ⟨B,o + fd.offset,none⟩), ?_, ?_⟩
     ·simp [Instr.fieldAt,run_underlying hd,hf,Instr.sureAddr,hpl]
     ·simp only [V]
      exact ⟨B,o + fd.offset,vs.drop fd.offset,rfl,hI,At_drop _ ha,Vs_drop _ hvs⟩
    ·rename_i id cs
     simp only [qa] at h
     subst h
     simp only [V] at hv
     obtain ⟨B,o,vs,_,_,rfl,hI,ha,hvs,_⟩ := hv
     refine ⟨.pointer (some ⟨B,o + fd.offset,none⟩), ?_, ?_⟩
     ·simp [Instr.fieldAt,run_underlying hd,hf,Instr.sureAddr,hpl]
     ·simp only [V]
      exact ⟨B,o + fd.offset,vs.drop fd.offset,rfl,hI,At_drop _ ha,Vs_drop _ hvs⟩
    ·cases h
   ·cases h
  ·cases h
 ·cases h
theorem fieldA_sim {c : Cx} {t : TypeId} {x r : AVal} {v : Value} {f : Nat} (h : fieldA P t x f = some r) (hv : V c x v) (w : World) :
 ∃ u,(Instr.field t v f).run P w = .ok u w ∧ V c r u := by
 unfold fieldA at h
 split at h
 ·rename_i fs cs hd
  split at h
  ·rename_i fd hf
   split at h
   ·simp only [V] at hv
    obtain ⟨vs,rfl,hvs⟩ := hv
    obtain ⟨u,h1,h2⟩ := partA_sim h hvs w
    exact ⟨u,by simp [Instr.field,run_underlying hd,hf,asAgg,h1],h2⟩
   ·cases h
  ·cases h
 ·cases h
theorem idxA_sim {c : Cx} {x : AVal} {v : Value} {i : Nat} (h : idxA x = some i) (hv : V c x v) : ∃ k n,v = .int k n ∧ 0 ≤ n ∧ n.toNat = i := by
 unfold idxA at h
 split at h
 ·rename_i k n
  split at h
  ·rename_i h0
   simp only [qa] at h
   simp only [V] at hv
   exact ⟨k,n,hv,h0,h⟩
  ·cases h
 ·cases h
theorem Vss_row {c : Cx} {sz : Nat} : ∀ {rows : List (List AVal)} {vs : List Value} {i : Nat} {r : List AVal},Vss c sz rows vs → rows[i]? = some r → Vs c r ((vs.drop (i * sz)).take sz) ∧ i * sz + sz ≤ vs.length
 | [],_,_,_,_,h => by simp at h
 | x :: rows,_,0,r,hv,h => by
  simp only [Vss] at hv
  obtain ⟨us,ws,rfl,hl,h1,h2⟩ := hv
  simp at h
  subst h
  subst hl
  simpa using h1
 | x :: rows,_,i + 1,r,hv,h => by
  simp only [Vss] at hv
  obtain ⟨us,ws,rfl,hl,h1,h2⟩ := hv
  simp at h
  obtain ⟨h3,h4⟩ := Vss_row h2 h
  have e : (i + 1) * sz = us.length + i * sz := by rw [hl,Nat.succ_mul,Nat.add_comm]
  refine ⟨?_, ?_⟩
  ·rw [e,← List.drop_drop,List.drop_left]
   exact h3
  ·rw [e,qo]
   omega
theorem Vss_length {c : Cx} {sz : Nat} : ∀ {rows : List (List AVal)} {vs : List Value},Vss c sz rows vs → vs.length = rows.length * sz
 | [],_,h => by simp [Vss] at h; simp [h]
 | x :: rows,_,h => by
  simp only [Vss] at h
  obtain ⟨us,ws,rfl,hl,h1,h2⟩ := h
  rw [qo,Vss_length h2,hl,qn,Nat.succ_mul,Nat.add_comm]
theorem indexAddrA_sim {c : Cx} {t : TypeId} {x i r : AVal} {v vi : Value} (h : indexAddrA P t x i = some r) (hv : V c x v) (hi : V c i vi) (w : World) :
 ∃ u,(Instr.indexAt t v vi).run P w = .ok u w ∧ V c r u := by
 unfold indexAddrA at h
 split at h
 ·cases h
 ·rename_i j hj
  obtain ⟨k,n,rfl,h0,rfl⟩ := idxA_sim hj hi
  split at h
  ·rename_i len e hd
   split at h
   ·rename_i hok
    have hlt : (0 ≤ n ∧ n < (len : Int)) := ⟨h0,by omega⟩
    split at h
    ·rename_i b off
     simp only [qa] at h
     subst h
     simp only [V] at hv
     obtain ⟨B,base,hb,rfl⟩ := hv
     refine ⟨.pointer (some ⟨B,base + (off + n.toNat * szOf P e),none⟩), ?_, ?_⟩
     ·simp [Instr.indexAt,asIntOf,run_underlying hd,Instr.sureAddr,hlt,run_sizeOf hok.2,add_plain,Nat.add_assoc]
     ·simp only [V]
      exact ⟨B,base,hb,rfl⟩
    ·rename_i cs
     simp only [qa] at h
     subst h
     simp only [V] at hv
     obtain ⟨B,o,vs,rfl,hI,ha,hvs⟩ := hv
     refine ⟨.pointer (some ⟨B,o + n.toNat * szOf P e,none⟩), ?_, ?_⟩
     ·simp [Instr.indexAt,asIntOf,run_underlying hd,Instr.sureAddr,hlt,run_sizeOf hok.2,add_plain]
     ·simp only [V]
      exact ⟨B,_,_,rfl,hI,At_drop _ ha,Vs_drop _ hvs⟩
    ·cases h
   ·cases h
  ·rename_i e hd
   split at h
   ·rename_i hok
    split at h
    ·rename_i sz rows ex
     split at h
     ·rename_i hsz
      subst hsz
      rw [qd] at h
      obtain ⟨row,hrow,rfl⟩ := h
      simp only [V] at hv
      obtain ⟨a,cap,vs,rfl,hcap,_,hm,hvs⟩ := hv
      obtain ⟨h1,h2⟩ := Vss_row hvs hrow
      have hm' : a.spot = none ∧ c.I a.block ∧ At c.w a.block a.off vs := hm.resolve_left fun e => by subst e; simp at hrow
      obtain ⟨hs,hI,ha⟩ := hm'
      obtain ⟨B,o,sp⟩ := a
      simp only at hs hI ha
      subst hs
      have hlen : n.toNat < rows.length := by
       rcases qm n.toNat rows.length with h | h
       ·exact h
       ·rw [qr h] at hrow; cases hrow
      have hlt : (0 ≤ n ∧ n < (rows.length : Int)) := ⟨h0,by omega⟩
      refine ⟨.pointer (some ⟨B,o + n.toNat * szOf P e,none⟩), ?_, ?_⟩
      ·simp [Instr.indexAt,asIntOf,run_underlying hd,hlt,run_sizeOf hok,add_plain]
      ·simp only [V]
       exact ⟨B,_,_,rfl,hI,At_take _ (At_drop _ ha),h1⟩
     ·cases h
    ·rename_i sz b off len cap ex
     split at h
     ·rename_i hsz
      obtain ⟨rfl,hl⟩ := hsz
      simp only [qa] at h
      subst h
      simp only [V] at hv
      obtain ⟨B,base,k',o,hb,rfl,ho,h1,h2,h3,h4⟩ := hv
      have hlt : (0 ≤ n ∧ n < (len : Int)) := ⟨h0,by omega⟩
      have ho' := ho (by omega)
      subst ho'
      refine ⟨.pointer (some ⟨B,base + (off + n.toNat * szOf P e),none⟩), ?_, ?_⟩
      ·simp [Instr.indexAt,asIntOf,run_underlying hd,hlt,run_sizeOf hok,add_plain,Nat.add_assoc]
      ·simp only [V]
       exact ⟨B,base,hb,rfl⟩
     ·cases h
    ·cases h
   ·cases h
  ·cases h
theorem indexA_sim {c : Cx} {t : TypeId} {x i r : AVal} {v vi : Value} (h : indexA P t x i = some r) (hv : V c x v) (hi : V c i vi) (w : World) :
 ∃ u,(Instr.index t v vi).run P w = .ok u w ∧ V c r u := by
 unfold indexA at h
 split at h
 ·cases h
 ·rename_i j hj
  obtain ⟨k,n,rfl,h0,rfl⟩ := idxA_sim hj hi
  split at h
  ·rename_i len e cs hd
   split at h
   ·rename_i hok
    simp only [V] at hv
    obtain ⟨vs,rfl,hvs⟩ := hv
    obtain ⟨u,h1,h2⟩ := partA_sim h hvs w
    have hlt : (0 ≤ n ∧ n < (len : Int)) := ⟨h0,by omega⟩
    exact ⟨u,by simp [Instr.index,asIntOf,run_underlying hd,hlt,run_sizeOf hok.2,h1],h2⟩
   ·cases h
  ·rename_i s hd
   rw [qd] at h
   obtain ⟨b,hb,rfl⟩ := h
   simp only [V] at hv
   obtain ⟨s',rfl,rfl⟩ := hv
   have hb' : s'[n.toNat]? = some b := by
    rw [← hb,Array.getElem?_toList]
    rfl
   refine ⟨.int .u8 b.toNat, ?_,by simp [V]⟩
   simp [Instr.index,asIntOf,run_underlying hd,h0,hb']
  ·cases h
end Go.Am

/- That the model's operations keep to the idealised ones: arithmetic, cuts, building. Generic: over any program. -/
namespace Go.Am
open Go.RowKit
variable {P : Program}
theorem intBin_sim {op : BinOp} {k : IntKind} {a b : Int} {r : AVal} (h : intBin op k a b = some r) (hs : op ≠ .shl ∧ op ≠ .shr) {c : Cx} (t : TypeId) (w : World) :
 ∃ u,(binOp op t (.int k a) (.int k b)).run P w = .ok u w ∧ V c r u := by
 cases op <;> simp only [intBin] at h <;> first
  | (exact absurd rfl hs.1)
  | (exact absurd rfl hs.2)
  | (simp only [qa] at h; subst h; exact ⟨_,by simp [binOp,Op.intArith,Op.intBits,Op.intCmp]; rfl,by simp [V]⟩)
  | (split at h
     ·cases h
     ·rename_i hb
      simp only [qa] at h
      subst h
      exact ⟨_,by simp [binOp,Op.intDiv,hb]; rfl,by simp [V]⟩)
theorem shiftA_sim {op : BinOp} {k : IntKind} {a : Int} {k' : IntKind} {b : Int} {r : AVal} (h : shiftA op k a b = some r) {c : Cx} (t : TypeId) (w : World) :
 ∃ u,(binOp op t (.int k a) (.int k' b)).run P w = .ok u w ∧ V c r u := by
 unfold shiftA at h
 split at h
 ·cases h
 ·rename_i hb
  cases op <;> simp only at h <;> first
   | (cases h; done)
   | (simp only [qa] at h; subst h; exact ⟨_,by simp [binOp,Op.shift,hb]; rfl,by simp [V]⟩)
theorem strBin_sim {op : BinOp} {x y : List UInt8} {r : AVal} (h : strBin op x y = some r) {a b : ByteArray} (ha : a.data.toList = x) (hb : b.data.toList = y) {c : Cx} (t : TypeId) (w : World) :
 ∃ u,(binOp op t (.string a) (.string b)).run P w = .ok u w ∧ V c r u := by
 subst ha hb
 have hsa : a.size = a.data.toList.length := Array.length_toList.symm
 have hsb : b.size = b.data.toList.length := Array.length_toList.symm
 cases op <;> simp only [strBin] at h <;> first
  | (cases h; done)
  | (split at h
     ·cases h
     ·rename_i hle
      simp only [qa] at h
      subst h
      refine ⟨.string (a ++ b), ?_, ?_⟩
      ·simp only [binOp,Op.stringOp]
       rw [if_neg (by rw [hsa,hsb]; exact hle)]
       rfl
      ·simp only [V]
       exact ⟨a ++ b,rfl,by simp⟩)
  | (simp only [qa] at h; subst h; exact ⟨_,by simp only [binOp,Op.stringOp,ByteArray.toList_eq]; rfl,by simp [V]⟩)
def vnk : Value → Option (NK × Bool)
 | .pointer a => some (.p,a.isNone)
 | .nilIface => some (.i,true)
 | .iface _ _ => some (.i,false)
 | .slice a _ _ => some (.s,a.isNone)
 | .nilFunc => some (.f,true)
 | .func _ _ _ => some (.f,false)
 | .map a => some (.m,a.isNone)
 | _ => none
theorem nk_sim {c : Cx} {x : AVal} {k : NK × Bool} (h : nk x = some k) {v : Value} (hv : V c x v) : vnk v = some k := by
 cases x <;> simp only [nk,qa] at h <;> first
  | (cases h; done)
  | (subst h
     simp only [V] at hv
     rcases v with _ | _ | _ | _ | _ | a | ⟨a,_,_⟩ | a | _ | _ | _ | _ | _ | _ | _ <;> first
      | rfl
      | (exfalso; simp at hv; done)
      | (cases a <;> simp_all [vnk]; done))
theorem equalIn_nk {t : TypeId} {k : NK} {n1 n2 : Bool} {a b : Value} (ha : vnk a = some (k,n1)) (hb : vnk b = some (k,n2)) (hn : n1 = true ∨ n2 = true) (hk : nkOk P t k = true) (d : Nat) (w : World) :
 (Op.equalIn (d + 1) t a b).run P w = .ok (n1 && n2) w := by
 have key : ∀ D,P.underlying t = some D → nkOk P t k = (match D,k with | .pointer _,.p => true | .interface _,.i => true | .slice _,.s => true | .func _ _ _,.f => true | .map _ _,.m => true | _,_ => false) := by
  intro D hD
  cases k <;> cases D <;> simp [nkOk,hD]
 cases hD : P.underlying t with
 | none => cases k <;> simp [nkOk,hD] at hk
 | some D =>
  rw [key D hD] at hk
  cases k <;> cases D <;> simp only [Bool.false_eq_true] at hk <;>
   rcases a with _ | _ | _ | _ | _ | x | ⟨x,_,_⟩ | x | _ | _ | _ | _ | _ | _ | _ <;> simp only [vnk,qa,qe,reduceCtorEq,false_and,true_and] at ha <;> subst ha <;>
   rcases b with _ | _ | _ | _ | _ | y | ⟨y,_,_⟩ | y | _ | _ | _ | _ | _ | _ | _ <;> simp only [vnk,qa,qe,reduceCtorEq,false_and,true_and] at hb <;> subst hb <;>
   first
    | (simp at hn; done)
    | (simp [Op.equalIn,run_underlying hD]; done)
    | (cases x <;> cases y <;> first | (simp at hn; done) | (simp [Op.equalIn,run_underlying hD]; done))
    | (cases x <;> first | (simp at hn; done) | (simp [Op.equalIn,run_underlying hD]; done))
    | (cases y <;> first | (simp at hn; done) | (simp [Op.equalIn,run_underlying hD]; done))
theorem eqFs_sim {c : Cx} {f : TypeId → AVal → AVal → Option Bool} {d : Nat} {w : World}
 (hf : ∀ t x y r,f t x y = some r → ∀ a b,V c x a → V c y b → (Op.equalIn d t a b).run P w = .ok r w) {xs ys : List AVal} {us vs : List Value} (hx : Vs c xs us) (hy : Vs c ys vs) :
 ∀ (fs : List Field) {r : Bool},eqFs P f xs ys fs = some r → (Op.eqFields d us.toArray vs.toArray fs).run P w = .ok r w
 | [],r,h => by
  simp only [eqFs,qa] at h
  subst h
  simp [Op.eqFields]
 | fd :: fs,r,h => by
  simp only [eqFs] at h
  split at h
  ·cases h
  ·rename_i hn
   split at h
   ·rename_i a b h1 h2
    split at h
    ·rename_i r1 r2 h3 h4
     simp only [qa] at h
     obtain ⟨u,e1,v1⟩ := partA_sim (P := P) h1 hx w
     obtain ⟨v,e2,v2⟩ := partA_sim (P := P) h2 hy w
     have e3 := hf _ _ _ _ h3 u v v1 v2
     have e4 := eqFs_sim hf hx hy fs h4
     have hne : fd.name ≠ "_" := by simpa using hn
     subst h
     simp only [Op.eqFields]
     rw [if_pos hne]
     cases r1 <;> simp [e1,e2,e3,e4]
    ·cases h
   ·cases h
theorem eqIs_sim {c : Cx} {f : AVal → AVal → Option Bool} {d : Nat} {w : World} {e : TypeId}
 (hf : ∀ x y r,f x y = some r → ∀ a b,V c x a → V c y b → (Op.equalIn d e a b).run P w = .ok r w) {xs ys : List AVal} {us vs : List Value} (hx : Vs c xs us) (hy : Vs c ys vs) :
 ∀ (is : List Nat) {r : Bool},eqIs P f e xs ys is = some r → (Op.eqItems d e (P.cellsOf e) us.toArray vs.toArray is).run P w = .ok r w
 | [],r,h => by
  simp only [eqIs,qa] at h
  subst h
  simp [Op.eqItems]
 | i :: is,r,h => by
  simp only [eqIs] at h
  split at h
  ·rename_i a b h1 h2
   split at h
   ·rename_i r1 r2 h3 h4
    simp only [qa] at h
    obtain ⟨u,e1,v1⟩ := partA_sim (P := P) h1 hx w
    obtain ⟨v,e2,v2⟩ := partA_sim (P := P) h2 hy w
    have e3 := hf _ _ _ h3 u v v1 v2
    have e4 := eqIs_sim hf hx hy is h4
    subst h
    simp only [szOf] at e1 e2
    simp only [Op.eqItems]
    cases r1 <;> simp [e1,e2,e3,e4]
   ·cases h
  ·cases h
theorem eqV_sim {c : Cx} : ∀ (k : Nat) {t : TypeId} {x y : AVal} {r : Bool},eqV P k t x y = some r → ∀ {a b : Value},V c x a → V c y b → ∀ {d : Nat},k ≤ d → ∀ w : World,(Op.equalIn d t a b).run P w = .ok r w
 | 0,_,_,_,_,h,_,_,_,_,_,_,_ => by cases h
 | k + 1,t,x,y,r,h,a,b,ha,hb,d,hd,w => by
  obtain ⟨d,rfl⟩ : ∃ e,d = e + 1 := ⟨d - 1,by omega⟩
  simp only [eqV] at h
  split at h
  ·rename_i hu
   split at h
   ·simp only [V] at ha hb
    subst ha hb
    simp only [qa] at h
    subst h
    simp [Op.equalIn,run_underlying hu]
   ·cases h
  ·rename_i hu
   split at h
   ·simp only [V] at ha hb
    subst ha hb
    split at h
    ·rename_i hk
     subst hk
     simp only [qa] at h
     subst h
     simp [Op.equalIn,run_underlying hu]
    ·cases h
   ·cases h
  ·rename_i hu
   split at h
   ·simp only [V] at ha hb
    obtain ⟨s,rfl,rfl⟩ := ha
    obtain ⟨s',rfl,rfl⟩ := hb
    simp only [qa] at h
    subst h
    have := run_equalIn_string (P := P) w d t s s' hu
    rw [ByteArray.toList_eq,ByteArray.toList_eq] at this
    exact this
   ·cases h
  ·rename_i fs hu
   split at h
   ·rename_i xs ys
    split at h
    ·cases h
    ·rename_i hs
     simp only [V] at ha hb
     obtain ⟨us,rfl,h1⟩ := ha
     obtain ⟨vs,rfl,h2⟩ := hb
     have hfs : P.fieldsOf t = fs := by simp [Program.fieldsOf,hu]
     have := run_equalIn_struct (P := P) w d t us.toArray vs.toArray (by rw [hfs]; exact hu) (by simpa using hs)
     rw [this,hfs]
     exact eqFs_sim (fun t x y r h a b h1 h2 => eqV_sim k h h1 h2 (by omega) w) h1 h2 _ h
   ·cases h
  ·rename_i n e hu
   split at h
   ·rename_i xs ys
    split at h
    ·rename_i hs
     simp only [V] at ha hb
     obtain ⟨us,rfl,h1⟩ := ha
     obtain ⟨vs,rfl,h2⟩ := hb
     obtain ⟨i,hi⟩ := Option.isSome_iff_exists.1 hs
     rw [run_equalIn_array w d us.toArray vs.toArray hu hi]
     exact eqIs_sim (fun x y r h a b h1 h2 => eqV_sim k h h1 h2 (by omega) w) h1 h2 _ h
    ·cases h
   ·cases h
  ·cases h
theorem eqIface_sim {c : Cx} {t : TypeId} {x y : AVal} {r : Bool} (h : eqIface P t x y = some r) {a b : Value} (ha : V c x a) (hb : V c y b) (d : Nat) :
 (Op.equalIn (d + 2) t a b).run P c.w = .ok r c.w := by
 unfold eqIface at h
 split at h
 ·rename_i u x v y
  simp only [V] at ha hb
  obtain ⟨a,rfl,ha⟩ := ha
  obtain ⟨b,rfl,hb⟩ := hb
  split at h
  ·rename_i ms hu
   split at h
   ·rename_i hne
    simp only [qa] at h
    subst h
    simp [Op.equalIn,run_underlying hu,hne]
   ·rename_i hne
    have hne : u = v := by simpa using hne
    subst hne
    split at h
    ·rename_i e i _ j _ hp
     split at h
     ·rename_i iu ie h1 h2
      split at h
      ·rename_i hc
       simp only [qa] at h
       simp only [V] at ha hb
       obtain ⟨B,o,_,hn,e1,rfl,_,_,_,ca,ta,g1⟩ := ha
       obtain ⟨B',o',_,_,e2,rfl,_,_,_,cb,tb,g2⟩ := hb
       by_cases hij : i = j
       ·subst hij
        rw [e1] at e2
        cases e2
        have : r = true := by rw [← h]; simp
        subst this
        exact run_equalIn_iface_ptr_same c.w d _ hu hp h1 hc.1 h2
       ·have : r = false := by rw [← h]; simpa using hij
        subst this
        refine run_equalIn_iface_ptr_other c.w d hu hp h1 hc.1 h2 hc.2 ?_ g1 g2
        intro e
        simp only [Addr.mk.injEq,and_true] at e
        obtain ⟨rfl,rfl⟩ := e
        have hi : i < c.θ.length := by
         rcases qm i c.θ.length with h | h
         ·exact h
         ·rw [qr h] at e1; cases e1
        exact hij ((List.getElem?_inj hi hn).1 (e1.trans e2.symm))
      ·cases h
     ·cases h
    ·cases h
  ·cases h
 ·cases h
theorem equalIn_sim {c : Cx} {t : TypeId} {lit : Bool} {x y : AVal} {r : Bool} (h : eqA P t lit x y = some r) {a b : Value} (ha : V c x a) (hb : V c y b) (d : Nat) :
 (Op.equalIn (d + 8) t a b).run P c.w = .ok r c.w := by
 unfold eqA at h
 split at h
 ·split at h
  ·rename_i p q hb'
   simp only [qa] at h
   subst h
   simp only [V] at ha hb
   subst ha hb
   unfold boolB at hb'
   split at hb'
   ·rename_i hd
    exact run_equalIn_bool' c.w (d + 7) t p q hd
   ·cases hb'
  ·cases h
 ·split at h
  ·exact eqV_sim 8 h ha hb (by omega) c.w
  ·cases h
 ·exact eqIface_sim h ha hb (d + 6)
 ·split at h
  ·rename_i k1 n1 k2 n2 h1 h2
   split at h
   ·rename_i hc
    obtain ⟨rfl,hn,hk,_⟩ := hc
    simp only [qa] at h
    subst h
    exact equalIn_nk (nk_sim h1 ha) (nk_sim h2 hb) hn hk (d + 7) c.w
   ·cases h
  ·cases h
theorem binOp_eq_other {c : Cx} {t : TypeId} {lit : Bool} {x y : AVal} {r : Bool} (h : eqA P t lit x y = some r) {a b : Value} (ha : V c x a) (hb : V c y b) :
 (binOp .eql t a b).run P c.w = .ok (.bool r) c.w ∧ (binOp .neq t a b).run P c.w = .ok (.bool (!r)) c.w := by
 have he : (Op.equal t a b).run P c.w = .ok r c.w := equalIn_sim h ha hb 9992
 unfold eqA at h
 split at h
 ·simp only [V] at ha hb
  subst ha hb
  simp [binOp,he]
 ·simp only [V] at ha hb
  obtain ⟨us,rfl,h1⟩ := ha
  obtain ⟨vs,rfl,h2⟩ := hb
  simp [binOp,he]
 ·simp only [V] at ha hb
  obtain ⟨us,rfl,h1⟩ := ha
  obtain ⟨vs,rfl,h2⟩ := hb
  simp [binOp,he]
 ·split at h
  ·rename_i k1 n1 k2 n2 h1 h2
   have va := nk_sim h1 ha
   have vb := nk_sim h2 hb
   rcases a with _ | _ | _ | _ | _ | x | ⟨x,_,_⟩ | x | _ | _ | _ | _ | _ | _ | _ <;> simp only [vnk,reduceCtorEq] at va <;>
    rcases b with _ | _ | _ | _ | _ | y | ⟨y,_,_⟩ | y | _ | _ | _ | _ | _ | _ | _ <;> simp only [vnk,reduceCtorEq] at vb <;> simp [binOp,he]
  ·cases h
end Go.Am

/- That the model's operations keep to the idealised ones: the quiet ones together. Generic: over any program. -/
namespace Go.Am
open Go.RowKit
variable {P : Program}
theorem eqGuard_none {op : BinOp} (t : TypeId) (x y : Operand) (a b : Value) (w : World)
 (h1 : a ≠ .nilIface ∨ b ≠ .nilIface ∨ (litB x || litB y) = true) (h2 : (∀ cs,a ≠ .agg cs) ∨ (∀ cs,b ≠ .agg cs)) : (eqGuard op t x y a b).run P w = .ok () w := by
 cases op <;> first
  | rfl
  | (cases a <;> cases b <;> first
   | rfl
   | (rcases h1 with h1 | h1 | h1
      ·exact absurd rfl h1
      ·exact absurd rfl h1
      ·cases x <;> cases y <;> first | rfl | (simp [litB] at h1; done))
   | (rcases h2 with h2 | h2
      ·exact absurd rfl (h2 _)
      ·exact absurd rfl (h2 _)))
theorem binA_sim {c : Cx} {op : BinOp} {t : TypeId} {x y : Operand} {xa ya : AVal} {r : AVal} {a b : Value} (h : binA P op t (litB x || litB y) xa ya = some r) (ha : V c xa a) (hb : V c ya b) :
 ∃ u,(do eqGuard op t x y a b; binOp op t a b : Sem Value).run P c.w = .ok u c.w ∧ V c r u := by
 generalize hw : c.w = w
 unfold binA at h
 split at h
 ·rename_i k p k' q
  simp only [V] at ha hb
  subst ha hb
  have hg : (eqGuard op t x y (.int k p) (.int k' q)).run P w = .ok () w := eqGuard_none _ _ _ _ _ _ (.inl (by simp)) (.inl (by simp))
  simp only [Sem.run_bind,hg,Result.andThen_ok]
  split at h
  ·exact shiftA_sim h t w
  ·exact shiftA_sim h t w
  ·rename_i h1 h2
   split at h
   ·rename_i hk
    subst hk
    exact intBin_sim h ⟨fun e => h1 e,fun e => h2 e⟩ t w
   ·cases h
 ·rename_i p q
  simp only [V] at ha hb
  obtain ⟨s,rfl,hs⟩ := ha
  obtain ⟨s',rfl,hs'⟩ := hb
  have hg : (eqGuard op t x y (.string s) (.string s')).run P w = .ok () w := eqGuard_none _ _ _ _ _ _ (.inl (by simp)) (.inl (by simp))
  simp only [Sem.run_bind,hg,Result.andThen_ok]
  exact strBin_sim h hs hs' t w
 ·have guard : ∀ z,eqA P t (litB x || litB y) xa ya = some z → (eqGuard op t x y a b).run P w = .ok () w := by
   intro z hz
   unfold eqA at hz
   split at hz
   ·simp only [V] at ha hb
    subst ha hb
    exact eqGuard_none _ _ _ _ _ _ (.inl (by simp)) (.inl (by simp))
   ·split at hz
    ·rename_i hg
     simp only [V] at ha hb
     obtain ⟨us,rfl,h1⟩ := ha
     obtain ⟨vs,rfl,h2⟩ := hb
     exact run_eqGuard_agg w op t x y _ _ hg
    ·cases hz
   ·simp only [V] at ha hb
    obtain ⟨us,rfl,h1⟩ := ha
    obtain ⟨vs,rfl,h2⟩ := hb
    exact eqGuard_none _ _ _ _ _ _ (.inl (by simp)) (.inl (by simp))
   ·split at hz
    ·rename_i k1 n1 k2 n2 h1 h2
     have va := nk_sim h1 ha
     have vb := nk_sim h2 hb
     split at hz
     ·rename_i hc
      refine eqGuard_none _ _ _ _ _ _ ?_ (.inl fun cs e => by subst e; simp [vnk] at va)
      obtain ⟨rfl,_,_,h4⟩ := hc
      rcases h4 with h4 | h4 | h4 | h4
      ·exact .inr (.inr h4)
      ·refine .inl fun e => ?_
       subst e
       simp only [vnk,qa,qe] at va
       exact h4 va.1.symm
      ·refine .inl fun e => ?_
       subst e
       simp only [vnk,qa,qe] at va
       rw [h4] at va
       cases va.2
      ·refine .inr (.inl fun e => ?_)
       subst e
       simp only [vnk,qa,qe] at vb
       rw [h4] at vb
       cases vb.2
     ·cases hz
    ·cases hz
  split at h
  ·rw [qd] at h
   obtain ⟨z,hz,rfl⟩ := h
   exact ⟨.bool z,by simp [guard z hz,(hw ▸ binOp_eq_other hz ha hb).1],by simp [V]⟩
  ·rw [qd] at h
   obtain ⟨z,hz,rfl⟩ := h
   exact ⟨.bool (!z),by simp [guard z hz,(hw ▸ binOp_eq_other hz ha hb).2],by simp [V]⟩
  ·cases h
theorem unA_sim {c : Cx} {op : UnOp} {x r : AVal} {v : Value} (h : unA op x = some r) (hv : V c x v) (w : World) : ∃ u,(Op.unary op v).run P w = .ok u w ∧ V c r u := by
 unfold unA at h
 split at h <;> first
  | (cases h; done)
  | (simp only [qa] at h
     subst h
     simp only [V] at hv
     subst hv
     exact ⟨_,by simp [Op.unary,Op.intArith,Op.intBits]; rfl,by simp [V]⟩)
theorem convA_sim {c : Cx} {s d : TypeId} {x r : AVal} {v : Value} (h : convA P s d x = some r) (hv : V c x v) (w : World) : ∃ u,(convert s d v).run P w = .ok u w ∧ V c r u := by
 unfold convA at h
 split at h
 ·rename_i D k _ n hs hd
  simp only [qa] at h
  subst h
  simp only [V] at hv
  subst hv
  refine ⟨.int k (k.wrap n), ?_,by simp [V]⟩
  cases D <;> simp [convert,run_underlying hs,run_underlying hd,Conv.intToInt]
 ·rename_i D l hs hd
  simp only [qa] at h
  subst h
  simp only [V] at hv
  obtain ⟨t,rfl,ht⟩ := hv
  refine ⟨.string t, ?_,by simp only [V]; exact ⟨t,rfl,ht⟩⟩
  cases D <;> simp [convert,run_underlying hs,run_underlying hd]
 ·cases h
theorem boundA_some {c : Cx} {d y r : Nat} {x : AVal} {v : Value} (h : boundA d y (some x) = some r) (hv : V c x v) : ∃ k n,v = .int k n ∧ 0 ≤ n ∧ n ≤ (y : Int) ∧ n.toNat = r := by
 unfold boundA at h
 split at h
 ·rename_i e; cases e
 ·rename_i x' e
  cases e
  split at h
  ·rename_i i hi
   obtain ⟨k,n,rfl,h0,rfl⟩ := idxA_sim hi hv
   split at h
   ·rename_i hle
    simp only [qa] at h
    exact ⟨k,n,rfl,h0,by omega,h⟩
   ·cases h
  ·cases h
theorem run_sliceBound' {k : IntKind} {n : Int} {y : Nat} (code : Go.BoundsCode) (h0 : 0 ≤ n) (h1 : n ≤ (y : Int)) (w : World) : (Instr.sliceBound (.int k n) y code).run P w = .ok n.toNat w := by
 simp [Instr.sliceBound,asIntOf,h0,h1]
def OptV (c : Cx) : Option AVal → Option Value → Prop
 | none,none => True
 | some a,some v => V c a v
 | _,_ => False
theorem run_bounds2 {c : Cx} {len cap len' cap' h l : Nat} {lo hi : Option AVal} {lo' hi' : Option Value} {isS : Bool} (hl : OptV c lo lo') (hh : OptV c hi hi')
 (e1 : boundA len' cap' hi = some h) (e2 : boundA 0 h lo = some l) (hlen : len' = len) (hcap : cap' ≤ cap) (w : World) :
 (Instr.sliceBounds isS len cap lo' hi' none).run P w = .ok (l,h,cap) w := by
 subst hlen
 have H : (match hi' with | some v => Instr.sliceBound v cap (if isS then .sliceAcap else .sliceAlen) | none => pure len' : Sem Nat).run P w = .ok h w := by
  cases hi with
  | none =>
   cases hi' with
   | none => simp only [boundA,qa] at e1; subst e1; rfl
   | some _ => exact hh.elim
  | some x =>
   cases hi' with
   | none => exact hh.elim
   | some v =>
    obtain ⟨k,n,rfl,h0,h1,rfl⟩ := boundA_some e1 hh
    exact run_sliceBound' _ h0 (by omega) w
 have L : (match lo' with | some v => Instr.sliceBound v h .sliceB | none => pure 0 : Sem Nat).run P w = .ok l w := by
  cases lo with
  | none =>
   cases lo' with
   | none => simp only [boundA,qa] at e2; subst e2; rfl
   | some _ => exact hl.elim
  | some x =>
   cases lo' with
   | none => exact hl.elim
   | some v =>
    obtain ⟨k,n,rfl,h0,h1,rfl⟩ := boundA_some e2 hl
    exact run_sliceBound' _ h0 (by omega) w
 unfold Instr.sliceBounds
 cases hi' <;> cases lo' <;> simp_all
theorem run_bounds3 {c : Cx} {len cap cap' m h l : Nat} {lo hi : Option AVal} {mx : AVal} {lo' hi' : Option Value} {mx' : Value} {isS : Bool} (hl : OptV c lo lo') (hh : OptV c hi hi') (hm : V c mx mx') (hs : hi.isSome = true)
 (e0 : boundA 0 cap' (some mx) = some m) (e1 : boundA 0 m hi = some h) (e2 : boundA 0 h lo = some l) (hcap : cap' ≤ cap) (w : World) :
 (Instr.sliceBounds isS len cap lo' hi' (some mx')).run P w = .ok (l,h,m) w := by
 obtain ⟨k0,n0,rfl,h00,h01,rfl⟩ := boundA_some e0 hm
 cases hi with
 | none => simp at hs
 | some x =>
  cases hi' with
  | none => exact hh.elim
  | some v =>
   obtain ⟨k,n,rfl,h0,h1,rfl⟩ := boundA_some e1 hh
   have M := fun code => run_sliceBound' (P := P) (k := k0) (n := n0) (y := cap) code h00 (by omega) w
   have Hh := fun code => run_sliceBound' (P := P) (k := k) (n := n) (y := n0.toNat) code h0 (by omega) w
   cases lo with
   | none =>
    cases lo' with
    | none =>
     simp only [boundA,qa] at e2
     subst e2
     simp [Instr.sliceBounds,M,Hh]
    | some _ => exact hl.elim
   | some y =>
    cases lo' with
    | none => exact hl.elim
    | some u =>
     obtain ⟨k2,n2,rfl,h02,h12,rfl⟩ := boundA_some e2 hl
     have L := fun code => run_sliceBound' (P := P) (k := k2) (n := n2) (y := n.toNat) code h02 (by omega) w
     simp [Instr.sliceBounds,M,Hh,L]
theorem boundA_le {d y r : Nat} {x : Option AVal} (h : boundA d y x = some r) : r = d ∨ r ≤ y := by
 unfold boundA at h
 split at h
 ·simp only [qa] at h; exact .inl h.symm
 ·split at h
  ·split at h
   ·simp only [qa] at h; omega
   ·cases h
  ·cases h
theorem Vss_drop {c : Cx} {sz : Nat} : ∀ {rows : List (List AVal)} {vs : List Value} (n : Nat),Vss c sz rows vs → Vss c sz (rows.drop n) (vs.drop (n * sz))
 | [],_,n,h => by simp [Vss] at h; subst h; simp [Vss]
 | x :: rows,_,0,h => by simpa using h
 | x :: rows,_,n + 1,h => by
  simp only [Vss] at h
  obtain ⟨us,ws,rfl,hl,h1,h2⟩ := h
  have e : (us ++ ws).drop ((n + 1) * sz) = ws.drop (n * sz) := by
   rw [show (n + 1) * sz = us.length + n * sz by rw [hl,Nat.succ_mul,Nat.add_comm],← List.drop_drop,List.drop_left]
  rw [e]
  simpa using Vss_drop n h2
theorem Vss_take {c : Cx} {sz : Nat} : ∀ {rows : List (List AVal)} {vs : List Value} (n : Nat),Vss c sz rows vs → Vss c sz (rows.take n) (vs.take (n * sz))
 | [],_,n,h => by simp [Vss] at h; subst h; simp [Vss]
 | x :: rows,_,0,_ => by simp [Vss]
 | x :: rows,_,n + 1,h => by
  simp only [Vss] at h
  obtain ⟨us,ws,rfl,hl,h1,h2⟩ := h
  have e : (n + 1) * sz = us.length + n * sz := by rw [hl,Nat.succ_mul,Nat.add_comm]
  rw [e,List.take_length_add_append]
  simp only [List.take_succ_cons,Vss]
  exact ⟨us,_,rfl,hl,h1,Vss_take n h2⟩
theorem chunk_Vss {c : Cx} {sz : Nat} : ∀ (n : Nat) {cs : List AVal} {vs : List Value},Vs c cs vs → n * sz ≤ cs.length → Vss c sz (chunk sz n cs) (vs.take (n * sz))
 | 0,_,_,_,_ => by simp [chunk,Vss]
 | n + 1,cs,vs,h,hl => by
  have e : (n + 1) * sz = sz + n * sz := by rw [Nat.succ_mul,Nat.add_comm]
  have hlen := Vs_length h
  simp only [chunk,Vss]
  refine ⟨vs.take sz,(vs.drop sz).take (n * sz), ?_,by simp; omega,Vs_take _ h, ?_⟩
  ·rw [e,List.take_add]
  ·exact chunk_Vss n (Vs_drop sz h) (by simp; omega)
theorem chunk_length (sz : Nat) : ∀ (n : Nat) (cs : List AVal),(chunk sz n cs).length = n
 | 0,_ => rfl
 | n + 1,cs => by simp [chunk,chunk_length sz n]
theorem Room.mono {w : World} {B n m : Nat} (h : Room w B n) (hm : m ≤ n) : Room w B m := by
 obtain ⟨t,k,h1,h2⟩ := h
 exact ⟨t,k,h1,by omega⟩
theorem sliceA_sim {c : Cx} {H : Heap} (hR : Rel c H) {t : TypeId} {x r : AVal} {v : Value} {lo hi mx : Option AVal} {lo' hi' mx' : Option Value} (h : sliceA P t H x lo hi mx = some r) (hv : V c x v)
 (hl : OptV c lo lo') (hh : OptV c hi hi') (hm : OptV c mx mx') (w : World) :
 ∃ u,(Instr.sliceAt t v lo' hi' mx').run P w = .ok u w ∧ V c r u := by
 unfold sliceA at h
 split at h
 ·rename_i hd
  split at h
  ·rename_i s
   rw [Option.bind_eq_some_iff] at h
   obtain ⟨b,e1,h⟩ := h
   rw [qd] at h
   obtain ⟨l,e2,rfl⟩ := h
   simp only [V] at hv
   obtain ⟨s',rfl,rfl⟩ := hv
   cases mx' with
   | some _ => exact hm.elim
   | none =>
    have hsz : s'.size = s'.data.toList.length := Array.length_toList.symm
    have := run_bounds2 (P := P) (isS := false) (len := s'.size) (cap := s'.size) hl hh e1 e2 hsz.symm (by omega) w
    refine ⟨.string (s'.extract l b), ?_, ?_⟩
    ·simp only [Instr.sliceAt,Sem.run_bind,run_underlying hd,Result.andThen_ok,Instr.slice]
     simp [this]
    ·simp only [V]
     refine ⟨_,rfl, ?_⟩
     rw [ByteArray.data_extract]
     simp [List.extract_eq_take_drop]
  ·cases h
 ·rename_i e hd
  split at h
  ·rename_i hok
   have run2 : ∀ (a : Option Addr) (len cap : Nat) (l hb : Nat),(Instr.sliceBounds true len cap lo' hi' none).run P w = .ok (l,hb,cap) w → mx' = none →
    (Instr.sliceAt t (.slice a len cap) lo' hi' mx').run P w = .ok (.slice (if cap = l then a else a.map (·.add (l * szOf P e))) (hb - l) (cap - l)) w := by
    intro a len cap l hb hrun hmx
    subst hmx
    simp [Instr.sliceAt,Instr.slice,run_underlying hd,hrun,run_sizeOf hok]
   have run3 : ∀ (a : Option Addr) (len cap : Nat) (l hb m : Nat) (z : Value),(Instr.sliceBounds true len cap lo' hi' (some z)).run P w = .ok (l,hb,m) w → mx' = some z →
    (Instr.sliceAt t (.slice a len cap) lo' hi' mx').run P w = .ok (.slice (if m = l then a else a.map (·.add (l * szOf P e))) (hb - l) (m - l)) w := by
    intro a len cap l hb m z hrun hmx
    subst hmx
    simp [Instr.sliceAt,Instr.slice,run_underlying hd,hrun,run_sizeOf hok]
   split at h
   ·rw [Option.bind_eq_some_iff] at h
    obtain ⟨b,e1,h⟩ := h
    rw [qd] at h
    obtain ⟨l,e2,rfl⟩ := h
    simp only [V] at hv
    subst hv
    cases mx' with
    | some _ => exact hm.elim
    | none =>
     have hb0 := boundA_le e1
     have hl0 := boundA_le e2
     have hb : b = 0 := by omega
     have hl1 : l = 0 := by omega
     subst hb hl1
     have := run_bounds2 (P := P) (isS := true) (len := 0) (cap := 0) hl hh e1 e2 rfl (qf _) w
     exact ⟨.slice none 0 0,by rw [run2 none 0 0 0 0 this rfl]; simp,by simp [V]⟩
   ·rename_i m
    split at h
    case isFalse => cases h
    rename_i his
    rw [Option.bind_eq_some_iff] at h
    obtain ⟨m',e0,h⟩ := h
    rw [Option.bind_eq_some_iff] at h
    obtain ⟨b,e1,h⟩ := h
    rw [qd] at h
    obtain ⟨l,e2,rfl⟩ := h
    simp only [V] at hv
    subst hv
    cases mx' with
    | none => exact hm.elim
    | some z =>
     have hm0 := boundA_le e0
     have hb0 := boundA_le e1
     have hl0 := boundA_le e2
     have hm1 : m' = 0 := by omega
     have hb : b = 0 := by omega
     have hl1 : l = 0 := by omega
     subst hm1 hb hl1
     have := run_bounds3 (P := P) (isS := true) (len := 0) (cap := 0) hl hh hm his e0 e1 e2 (qf _) w
     exact ⟨.slice none 0 0,by rw [run3 none 0 0 0 0 0 z this rfl]; simp,by simp [V]⟩
   ·rename_i sz rows ex
    split at h
    ·rename_i hsz
     subst hsz
     rw [Option.bind_eq_some_iff] at h
     obtain ⟨b,e1,h⟩ := h
     rw [qd] at h
     obtain ⟨l,e2,rfl⟩ := h
     simp only [V] at hv
     obtain ⟨a,cap,vs,rfl,hcap,hx,hmm,hvs⟩ := hv
     cases mx' with
     | some _ => exact hm.elim
     | none =>
      have hb0 := boundA_le e1
      have hl0 := boundA_le e2
      have := run_bounds2 (P := P) (isS := true) (len := rows.length) (cap := cap) hl hh e1 e2 rfl hcap w
      refine ⟨_,run2 _ _ _ _ _ this rfl, ?_⟩
      have hlen : ((rows.drop l).take (b - l)).length = b - l := by simp; omega
      simp only [V,hlen]
      by_cases hc : cap = l
      ·have : b - l = 0 := by omega
       rw [if_pos hc]
       refine ⟨a,cap - l,[],rfl,by omega, ?_,.inl (qq (by omega)), ?_⟩
       ·omega
       ·rw [this]; simp [Vss]
      ·rw [if_neg hc]
       refine ⟨a.add (l * szOf P e),cap - l,(vs.drop (l * szOf P e)).take ((b - l) * szOf P e),rfl,by omega, ?_, ?_,Vss_take _ (Vss_drop _ hvs)⟩
       rotate_left
       ·rcases hmm with hmm | ⟨hs,hI,ha⟩
        ·subst hmm; left; simp
        ·obtain ⟨B,off,sp⟩ := a
         simp only at hs hI ha
         subst hs
         right
         rw [add_plain]
         exact ⟨rfl,hI,At_take _ (At_drop _ ha)⟩
       intro hex
       simp only [qj,beq_iff_eq] at hex
       have := hx hex.1
       omega
    ·cases h
   ·rename_i sz rows ex m0
    split at h
    ·rename_i hsz
     obtain ⟨rfl,his⟩ := hsz
     rw [Option.bind_eq_some_iff] at h
     obtain ⟨m,e0,h⟩ := h
     rw [Option.bind_eq_some_iff] at h
     obtain ⟨b,e1,h⟩ := h
     rw [qd] at h
     obtain ⟨l,e2,rfl⟩ := h
     simp only [V] at hv
     obtain ⟨a,cap,vs,rfl,hcap,hx,hmm,hvs⟩ := hv
     cases mx' with
     | none => exact hm.elim
     | some z =>
      have hm0 := boundA_le e0
      have hb0 := boundA_le e1
      have hl0 := boundA_le e2
      have := run_bounds3 (P := P) (isS := true) (len := rows.length) (cap := cap) hl hh hm his e0 e1 e2 hcap w
      refine ⟨_,run3 _ _ _ _ _ _ z this rfl, ?_⟩
      have hlen : ((rows.drop l).take (b - l)).length = b - l := by simp; omega
      simp only [V,hlen]
      by_cases hc : m = l
      ·have : b - l = 0 := by omega
       rw [if_pos hc]
       refine ⟨a,m - l,[],rfl,by omega, ?_,.inl (qq (by omega)), ?_⟩
       ·omega
       ·rw [this]; simp [Vss]
      ·rw [if_neg hc]
       refine ⟨a.add (l * szOf P e),m - l,(vs.drop (l * szOf P e)).take ((b - l) * szOf P e),rfl,by omega, ?_, ?_,Vss_take _ (Vss_drop _ hvs)⟩
       rotate_left
       ·rcases hmm with hmm | ⟨hs,hI,ha⟩
        ·subst hmm; left; simp
        ·obtain ⟨B,off,sp⟩ := a
         simp only at hs hI ha
         subst hs
         right
         rw [add_plain]
         exact ⟨rfl,hI,At_take _ (At_drop _ ha)⟩
       intro hex
       simp only [beq_iff_eq] at hex
       omega
    ·cases h
   ·rename_i sz b0 off len cap ex
    split at h
    ·rename_i hsz
     subst hsz
     rw [Option.bind_eq_some_iff] at h
     obtain ⟨b,e1,h⟩ := h
     rw [qd] at h
     obtain ⟨l,e2,rfl⟩ := h
     simp only [V] at hv
     obtain ⟨B,base,k,o,hi,rfl,ho,h1,h2,h3,h4⟩ := hv
     cases mx' with
     | some _ => exact hm.elim
     | none =>
      have hb0 := boundA_le e1
      have hl0 := boundA_le e2
      have := run_bounds2 (P := P) (isS := true) (len := len) (cap := k) hl hh e1 e2 rfl h2 w
      refine ⟨_,run2 _ _ _ _ _ this rfl, ?_⟩
      have hmul : l * szOf P e + (k - l) * szOf P e = k * szOf P e := by
       rw [← Nat.add_mul]; congr 1; omega
      simp only [V]
      by_cases hc : k = l
      ·rw [if_pos hc]
       refine ⟨B,base,k - l,o,hi,rfl,by omega,by omega,by omega,fun hex => by have := h3 hex; omega,h4.mono (by omega)⟩
      ·rw [if_neg hc]
       have ho' := ho (by omega)
       subst ho'
       refine ⟨B,base,k - l,base + off + l * szOf P e,hi,by simp [add_plain],by omega,by omega,by omega,fun hex => by have := h3 hex; omega,h4.mono (by omega)⟩
    ·cases h
   ·rename_i sz b0 off len cap ex m0
    split at h
    ·rename_i hsz
     obtain ⟨rfl,his⟩ := hsz
     rw [Option.bind_eq_some_iff] at h
     obtain ⟨m,e0,h⟩ := h
     rw [Option.bind_eq_some_iff] at h
     obtain ⟨b,e1,h⟩ := h
     rw [qd] at h
     obtain ⟨l,e2,rfl⟩ := h
     simp only [V] at hv
     obtain ⟨B,base,k,o,hi,rfl,ho,h1,h2,h3,h4⟩ := hv
     cases mx' with
     | none => exact hm.elim
     | some z =>
      have hm0 := boundA_le e0
      have hb0 := boundA_le e1
      have hl0 := boundA_le e2
      have := run_bounds3 (P := P) (isS := true) (len := len) (cap := k) hl hh hm his e0 e1 e2 h2 w
      refine ⟨_,run3 _ _ _ _ _ _ z this rfl, ?_⟩
      have hmul : l * szOf P e + (k - l) * szOf P e = k * szOf P e := by
       rw [← Nat.add_mul]; congr 1; omega
      have hmul2 : (m - l) * szOf P e ≤ (k - l) * szOf P e := Nat.mul_le_mul_right _ (by omega)
      by_cases hml : m ≤ l
      ·rw [if_pos hml]
       have hml2 : m = l := by omega
       subst hml2
       rw [if_pos rfl,Nat.sub_self,show b - m = 0 by omega]
       simp only [V]
       exact ⟨_,0,[],rfl,qf _,fun _ => rfl,.inl trivial,by simp [Vss]⟩
      rw [if_neg hml]
      simp only [V]
      by_cases hc : m = l
      ·rw [if_pos hc]
       refine ⟨B,base,m - l,o,hi,rfl,by omega,by omega,by omega,fun _ => rfl,h4.mono (by omega)⟩
      ·rw [if_neg hc]
       have ho' := ho (by omega)
       subst ho'
       refine ⟨B,base,m - l,base + off + l * szOf P e,hi,by simp [add_plain],by omega,by omega,by omega,fun _ => rfl,h4.mono (by omega)⟩
    ·cases h
   ·cases h
  ·cases h
 ·rename_i n e hd
  split at h
  ·rename_i hok
   obtain ⟨hok,hmx⟩ := hok
   cases mx with
   | some _ => simp at hmx
   | none =>
    cases mx' with
    | some _ => exact hm.elim
    | none =>
     have runA : ∀ (B o l hb : Nat),(Instr.sliceBounds false n n lo' hi' none).run P w = .ok (l,hb,n) w →
      (Instr.sliceAt t (.pointer (some ⟨B,o,none⟩)) lo' hi' none).run P w = .ok (.slice (some (if n = l then ⟨B,o,none⟩ else ⟨B,o + l * szOf P e,none⟩)) (hb - l) (n - l)) w := by
      intro B o l hb hrun
      simp [Instr.sliceAt,Instr.sureAddr,run_underlying hd,hrun,run_sizeOf hok,add_plain]
     split at h
     ·rename_i b0 off
      split at h
      ·rename_i cs hb
       split at h
       ·rename_i hle
        rw [Option.bind_eq_some_iff] at h
        obtain ⟨b,e1,h⟩ := h
        rw [qd] at h
        obtain ⟨l,e2,rfl⟩ := h
        simp only [V] at hv
        obtain ⟨B,base,hi,rfl⟩ := hv
        have hb0 := boundA_le e1
        have hl0 := boundA_le e2
        obtain ⟨B',base',hi2,_,_,_,hroom,_⟩ := hR.blk b0 _ hb
        rw [hi] at hi2
        simp only [qa,qe] at hi2
        obtain ⟨rfl,rfl⟩ := hi2
        have := run_bounds2 (P := P) (isS := false) (len := n) (cap := n) hl hh e1 e2 rfl (qf _) w
        refine ⟨_,runA _ _ _ _ this, ?_⟩
        have hmul : l * szOf P e + (n - l) * szOf P e = n * szOf P e := by
         rw [← Nat.add_mul]; congr 1; omega
        simp only [V]
        by_cases hc : n = l
        ·rw [if_pos hc]
         exact ⟨B,base,n - l,base + off,hi,rfl,by omega,by omega,by omega,fun _ => rfl,hroom.mono (by omega)⟩
        ·rw [if_neg hc]
         exact ⟨B,base,n - l,base + off + l * szOf P e,hi,rfl,by omega,by omega,by omega,fun _ => rfl,hroom.mono (by omega)⟩
       ·cases h
      ·cases h
     ·rename_i cs
      split at h
      ·rename_i hle
       rw [Option.bind_eq_some_iff] at h
       obtain ⟨b,e1,h⟩ := h
       rw [qd] at h
       obtain ⟨l,e2,rfl⟩ := h
       simp only [V] at hv
       obtain ⟨B,off,vs,rfl,hI,ha,hvs⟩ := hv
       have hb0 := boundA_le e1
       have hl0 := boundA_le e2
       have := run_bounds2 (P := P) (isS := false) (len := n) (cap := n) hl hh e1 e2 rfl (qf _) w
       refine ⟨_,runA _ _ _ _ this, ?_⟩
       have hmul : l * szOf P e + (n - l) * szOf P e = n * szOf P e := by
        rw [← Nat.add_mul]; congr 1; omega
       have hmul2 : (b - l) * szOf P e ≤ (n - l) * szOf P e := Nat.mul_le_mul_right _ (by omega)
       have hlv := Vs_length hvs
       have hch := chunk_Vss (sz := szOf P e) (b - l) (Vs_drop (l * szOf P e) hvs) (by simp; omega)
       simp only [V,chunk_length]
       by_cases hc : n = l
       ·rw [if_pos hc]
        refine ⟨⟨B,off,none⟩,n - l,[],rfl,by omega,by intro hx; simp at hx; omega,.inr ⟨rfl,hI,by intro j v hj; simp at hj⟩, ?_⟩
        rw [show b - l = 0 by omega]
        simp [chunk,Vss]
       ·rw [if_neg hc]
        refine ⟨⟨B,off + l * szOf P e,none⟩,n - l,_,rfl,by omega,by intro hx; simp at hx; omega,.inr ⟨rfl,hI,At_take _ (At_drop _ ha)⟩,hch⟩
      ·cases h
     ·cases h
  ·cases h
 ·cases h
end Go.Am

/- That the model's operations keep to the idealised ones: maps. Generic: over any program. -/
namespace Go.Am
open Go.RowKit
variable {P : Program}
theorem intB_of {a : AVal} (h : intB a = true) : ∃ k n,a = .int k n := by
 cases a <;> simp [intB] at h
 exact ⟨_,_,rfl⟩
theorem run_part_int {e : TypeId} {kk : IntKind} (he : P.underlying e = some (.int kk)) {xs : Array Value} {i : Nat} {v : Value} (h : xs[i]? = some v) (w : World) : (part e xs i).run P w = .ok v w := by
 simp [part,run_isAgg he,aggD,h]
theorem Vs_cons {c : Cx} {a : AVal} {as : List AVal} {vs : List Value} : Vs c (a :: as) vs ↔ ∃ v us,vs = v :: us ∧ V c a v ∧ Vs c as us := by simp [Vs]
theorem mget {r : Nat} {es : Array MapEntry} {clock : Nat} {w : World} (hb : w.heap[r]? = some (.map es clock)) : (getObj r).run P w = .ok (.map es clock) w := by
 simp [getObj,Sem.run,hb]
theorem mset {w : World} {r : Nat} {es : Array MapEntry} {clock : Nat} (o : Obj) (hb : w.heap[r]? = some (.map es clock)) : (setObj r o).run P w = .ok () { w with heap := w.heap.setIfInBounds r o } := by
 simp [setObj,Sem.run,hb]
theorem mfind {w : World} {kt : TypeId} {d : TypeDesc} {k : Value} {l : List MapEntry} {a : Option (Nat × Value)} (hd : P.underlying kt = some d) (h : Instr.findNow d k l 0 = some a) : (Instr.findKey kt k l).run P w = .ok a w := by
 simp [Instr.findKey,run_underlying hd,Result.andThen,h]
theorem mheap {w : World} {r : Nat} {o o' : Obj} (hb : w.heap[r]? = some o) : (w.heap.setIfInBounds r o')[r]? = some o' ∧ ∀ r',r' ≠ r → (w.heap.setIfInBounds r o')[r']? = w.heap[r']? := by
 have hlt : r < w.heap.size := (Array.getElem?_eq_some_iff.1 hb).1
 exact ⟨by simp [hlt],fun r' hne => by simp [Ne.symm hne]⟩
theorem eqItems_sim {c : Cx} {e : TypeId} {kk : IntKind} (he : P.underlying e = some (.int kk)) (d : Nat) (w : World) : ∀ (as bs : List AVal) (i : Nat) (us vs : List Value) (xs ys : Array Value) {r : Bool},
 intsEq as bs = some r → Vs c as us → Vs c bs vs → (∀ j,us[j]? = xs[i + j]?) → (∀ j,vs[j]? = ys[i + j]?) →
 (Op.eqItems (d + 1) e 1 xs ys (List.range' i as.length)).run P w = .ok r w
 | [],[],i,us,vs,xs,ys,r,h,_,_,_,_ => by
  simp only [intsEq,qa] at h
  subst h
  simp [Op.eqItems]
 | .int k x :: as,.int k' y :: bs,i,us,vs,xs,ys,r,h,hu,hv,hx,hy => by
  simp only [intsEq] at h
  split at h
  ·rename_i hk
   subst hk
   rw [Vs_cons] at hu hv
   obtain ⟨u,us',rfl,h1,h2⟩ := hu
   obtain ⟨v,vs',rfl,h3,h4⟩ := hv
   simp only [V] at h1 h3
   subst h1 h3
   have p1 := run_part_int (P := P) he (xs := xs) (i := i) (v := .int k x) (by have := hx 0; simpa using this.symm) w
   have p2 := run_part_int (P := P) he (xs := ys) (i := i) (v := .int k y) (by have := hy 0; simpa using this.symm) w
   have p3 := run_equalIn_int w d e k kk x y he
   simp only [qn,List.range'_succ,Op.eqItems,Nat.mul_one,Sem.run_bind,p1,p2,p3,Result.andThen_ok]
   split at h
   ·rename_i hxy
    subst hxy
    simp only [BEq.rfl,Bool.not_true,Bool.false_eq_true,if_false]
    have := eqItems_sim he d w as bs (i + 1) us' vs' xs ys h h2 h4 (fun j => by have := hx (j + 1); simp only [List.getElem?_cons_succ] at this; rw [this]; congr 1; omega) (fun j => by have := hy (j + 1); simp only [List.getElem?_cons_succ] at this; rw [this]; congr 1; omega)
    exact this
   ·rename_i hxy
    simp only [qa] at h
    subst h
    have : (x == y) = false := by simpa using hxy
    simp [this]
  ·cases h
theorem keyEq_sim {c : Cx} {kt : TypeId} {k : KeyKind} (hk : keyKind P kt = some k) {x y : AVal} {r : Bool} (h : keyEq k x y = some r) {a b : Value} (ha : V c x a) (hb : V c y b) (w : World) :
 (Op.equal kt a b).run P w = .ok r w ∧ Instr.sameBits 10000 b a = true ∨ (Op.equal kt a b).run P w = .ok r w ∧ r = false := by
 have hrun : (Op.equal kt a b).run P w = .ok r w := by
  unfold keyKind at hk
  split at hk
  ·rename_i kk hd
   simp only [qa] at hk
   subst hk
   unfold keyEq at h
   split at h <;> first | (rename_i e; cases e; done) | skip
   ·rename_i k1 p k2 q e
    split at h
    ·rename_i hkk
     subst hkk
     simp only [qa] at h
     subst h
     simp only [V] at ha hb
     subst ha hb
     exact run_equalIn_int w 9999 kt _ _ _ _ hd
    ·cases h
   ·cases h
  ·rename_i hd
   simp only [qa] at hk
   subst hk
   unfold keyEq at h
   split at h <;> first | (rename_i e; cases e; done) | skip
   ·simp only [qa] at h
    subst h
    simp only [V] at ha hb
    obtain ⟨s,rfl,rfl⟩ := ha
    obtain ⟨s',rfl,rfl⟩ := hb
    have := run_equalIn_string (P := P) w 9999 kt s s' hd
    rw [ByteArray.toList_eq,ByteArray.toList_eq] at this
    exact this
   ·cases h
  ·rename_i n e hd
   split at hk
   ·rename_i kk he
    split at hk
    ·rename_i hsz
     simp only [qa] at hk
     subst hk
     unfold keyEq at h
     split at h <;> first | (rename_i e; cases e; done) | skip
     ·rename_i n' e' xs ys eq
      cases eq
      split at h
      ·rename_i hl
       simp only [V] at ha hb
       obtain ⟨us,rfl,h1⟩ := ha
       obtain ⟨vs,rfl,h2⟩ := hb
       obtain ⟨i,hi⟩ := Option.isSome_iff_exists.1 (info_of_underlying he)
       have := run_equalIn_array (P := P) w 9999 us.toArray vs.toArray hd hi
       have hcell : P.cellsOf e = 1 := hsz
       rw [hcell] at this
       have h3 := eqItems_sim (P := P) he 9998 w xs ys 0 us vs us.toArray vs.toArray h h1 h2 (fun j => by simp) (fun j => by simp)
       rw [hl.1,← List.range_eq_range'] at h3
       exact this.trans h3
      ·cases h
     ·cases h
    ·cases hk
   ·cases hk
  ·cases hk
 cases r with
 | false => exact .inr ⟨hrun,rfl⟩
 | true =>
  refine .inl ⟨hrun, ?_⟩
  unfold keyEq at h
  split at h
  ·split at h
   ·rename_i hkk
    subst hkk
    simp only [qa,beq_iff_eq] at h
    subst h
    simp only [V] at ha hb
    subst ha hb
    simp [Instr.sameBits]
   ·cases h
  ·simp only [qa,beq_iff_eq] at h
   subst h
   simp only [V] at ha hb
   obtain ⟨s,rfl,hs⟩ := ha
   obtain ⟨s',rfl,hs'⟩ := hb
   have : s = s' := by
    obtain ⟨⟨l⟩⟩ := s
    obtain ⟨⟨l'⟩⟩ := s'
    simp only at hs hs'
    rw [hs,hs']
   subst this
   simp only [Instr.sameBits]
   rw [beq_toListBytes]
   simp
  ·split at h
   ·rename_i hl
    simp only [V] at ha hb
    obtain ⟨us,rfl,h1⟩ := ha
    obtain ⟨vs,rfl,h2⟩ := hb
    have key : ∀ (as bs : List AVal) (us vs : List Value),intsEq as bs = some true → Vs c as us → Vs c bs vs → vs.length = us.length ∧ (vs.zip us).all (fun p => Instr.sameBits 9999 p.1 p.2) = true := by
     intro as
     induction as with
     | nil =>
      intro bs us vs h hu hv
      cases bs with
      | nil => simp [Vs] at hu hv; subst hu hv; simp
      | cons _ _ => simp [intsEq] at h
     | cons a as ih =>
      intro bs us vs h hu hv
      cases bs with
      | nil => cases a <;> simp [intsEq] at h
      | cons b bs =>
       cases a <;> cases b <;> simp only [intsEq] at h <;> first | (cases h; done) | skip
       split at h
       ·rename_i hk
        subst hk
        split at h
        ·rename_i hxy
         subst hxy
         rw [Vs_cons] at hu hv
         obtain ⟨u,us',rfl,g1,g2⟩ := hu
         obtain ⟨v,vs',rfl,g3,g4⟩ := hv
         simp only [V] at g1 g3
         subst g1 g3
         obtain ⟨g5,g6⟩ := ih bs us' vs' h g2 g4
         refine ⟨by simp [g5], ?_⟩
         rw [List.zip_cons_cons,List.all_cons,g6]
         simp [Instr.sameBits]
        ·cases h
       ·cases h
    obtain ⟨g1,g2⟩ := key _ _ us vs h h1 h2
    have : Instr.sameBits (9999 + 1) (.agg vs.toArray) (.agg us.toArray) = true := by
     simp only [Instr.sameBits,List.size_toArray,g1,BEq.rfl,Bool.true_and]
     exact g2
    exact this
   ·cases h
  ·cases h
theorem keyEq_run {c : Cx} {kt : TypeId} {k : KeyKind} (hk : keyKind P kt = some k) {x y : AVal} {r : Bool} (h : keyEq k x y = some r) {a b : Value} (ha : V c x a) (hb : V c y b) (w : World) :
 (Op.equal kt a b).run P w = .ok r w := by
 rcases keyEq_sim hk h ha hb w with ⟨h1,_⟩ | ⟨h1,_⟩ <;> exact h1
def KeyKind.wide : KeyKind → Bool
 | .ints _ _ => true
 | _ => false
def hitOf (ms : List MapEntry) (i : Nat) : Option (Nat × AVal) → Option (Nat × Value)
 | none => none
 | some (j,_) => (ms[j - i]?).map fun m => (j,m.val)
theorem findA_sim {c : Cx} {kt : TypeId} {k : KeyKind} (hk : keyKind P kt = some k) {x : AVal} {a : Value} (ha : V c x a) (w : World) : ∀ (es : List (AVal × AVal)) (ms : List MapEntry) (i : Nat) {r : Option (Nat × AVal)},
 findA k x es i = some r → Es c es ms →
 ((Instr.findAsking kt a ms i).run P w = .ok (hitOf ms i r) w ∧
  (∀ D,P.underlying kt = some D → (k.wide = true → ms = []) → Instr.findNow D a ms i = some (hitOf ms i r))) ∧
 (∀ j v,r = some (j,v) → i ≤ j ∧ ∃ m,ms[j - i]? = some m ∧ V c v m.val ∧ ∃ y,es[j - i]? = some (y,v) ∧ keyEq k x y = some true ∧ V c y m.key)
 | [],ms,i,r,h,hm => by
  simp only [findA,qa] at h
  subst h
  simp only [Es] at hm
  subst hm
  exact ⟨⟨by simp [Instr.findAsking,hitOf],fun D _ _ => by simp [Instr.findNow,hitOf]⟩,(fun j v e => by cases e)⟩
 | (y,v) :: es,ms,i,r,h,hm => by
  simp only [Es] at hm
  obtain ⟨m,ns,rfl,hy,hv,hns⟩ := hm
  simp only [findA] at h
  have now : ∀ D b,P.underlying kt = some D → k.wide = false → keyEq k x y = some b → Instr.sameNow D a m.key = some b := by
   intro D b hD hki hb
   unfold keyKind at hk
   rw [hD] at hk
   cases D <;> simp only at hk <;> first | (cases hk; done) | skip
   ·simp only [qa] at hk
    subst hk
    unfold keyEq at hb
    split at hb <;> first | (rename_i e; cases e; done) | skip
    ·split at hb
     ·rename_i hkk
      subst hkk
      simp only [qa] at hb
      subst hb
      simp only [V] at ha hy
      subst ha
      rw [hy]
      simp [Instr.sameNow]
     ·cases hb
    ·cases hb
   ·simp only [qa] at hk
    subst hk
    unfold keyEq at hb
    split at hb <;> first | (rename_i e; cases e; done) | skip
    ·simp only [qa] at hb
     subst hb
     simp only [V] at ha hy
     obtain ⟨s,rfl,rfl⟩ := ha
     obtain ⟨s',hs',rfl⟩ := hy
     rw [hs']
     simp [Instr.sameNow,beq_toListBytes,ByteArray.toList_eq]
    ·cases hb
   ·split at hk
    ·split at hk
     ·simp only [qa] at hk
      subst hk
      cases hki
     ·cases hk
    ·cases hk
  split at h
  ·cases h
  ·rename_i he
   simp only [qa] at h
   subst h
   have hrun := keyEq_run hk he ha hy w
   refine ⟨⟨?_,fun D hD hki => ?_⟩, ?_⟩
   ·simp only [Instr.findAsking,Sem.run_bind,hrun,Result.andThen_ok,if_true,Sem.run_pure,hitOf,Nat.sub_self,List.getElem?_cons_zero,Option.map_some]
   ·have : k.wide = false := by cases hw : k.wide with | false => rfl | true => (have := hki hw; cases this)
    simp only [Instr.findNow,now D true hD this he,hitOf,Nat.sub_self,List.getElem?_cons_zero,Option.map_some]
   ·intro j v' e
    simp only [qa,qe] at e
    obtain ⟨rfl,rfl⟩ := e
    exact ⟨qf _,m,by simp,hv,y,by simp,he,hy⟩
  ·rename_i he
   have hrun := keyEq_run hk he ha hy w
   obtain ⟨⟨h1,h2⟩,h3⟩ := findA_sim hk ha w es ns (i + 1) h hns
   have conv : (hitOf ns (i + 1) r) = (hitOf (m :: ns) i r) := by
    cases r with
    | none => rfl
    | some p =>
     obtain ⟨j,v'⟩ := p
     obtain ⟨hj,_⟩ := h3 j v' rfl
     simp only [hitOf]
     rw [show j - i = (j - (i + 1)) + 1 by omega,List.getElem?_cons_succ]
   refine ⟨⟨?_,fun D hD hki => ?_⟩, ?_⟩
   ·simp only [Instr.findAsking,Sem.run_bind,hrun,Result.andThen_ok,Bool.false_eq_true,if_false,h1,conv]
   ·have : k.wide = false := by cases hw : k.wide with | false => rfl | true => (have := hki hw; cases this)
    rw [← conv]
    simp only [Instr.findNow,now D false hD this he]
    exact h2 D hD (fun hw => by rw [this] at hw; cases hw)
   ·intro j v' e
    obtain ⟨hj,m',g1,g2,y',g3,g4,g5⟩ := h3 j v' e
    refine ⟨by omega,m', ?_,g2,y', ?_,g4,g5⟩
    ·rw [show j - i = (j - (i + 1)) + 1 by omega,List.getElem?_cons_succ]; exact g1
    ·rw [show j - i = (j - (i + 1)) + 1 by omega,List.getElem?_cons_succ]; exact g3
theorem run_checks {e : TypeId} {kk : IntKind} (he : P.underlying e = some (.int kk)) (em : Bool) (d : Nat) (xs : Array Value) (hx : ∀ j,j < xs.size → ∃ k n,xs[j]? = some (.int k n)) (w : World) : ∀ l : List Nat,(∀ j ∈ l,j < xs.size) →
 (forIn l PUnit.unit (fun i _ => do Instr.checkKey em (d + 1) e (← part e xs i); pure (ForInStep.yield PUnit.unit)) : Sem PUnit).run P w = .ok PUnit.unit w
 | [],_ => rfl
 | j :: l,h => by
  obtain ⟨k,n,hj⟩ := hx j (h j (List.mem_cons_self ..))
  have p1 := run_part_int (P := P) he hj w
  have p2 : (Instr.checkKey em (d + 1) e (.int k n)).run P w = .ok () w := by simp [Instr.checkKey,run_underlying he]
  have ih := run_checks he em d xs hx w l fun j hj => h j (List.mem_cons_of_mem _ hj)
  rw [List.forIn_cons]
  simp only [Sem.run_bind,p1,p2,Result.andThen_ok,Sem.run_pure]
  exact ih
theorem keyOk_sim {c : Cx} {kt : TypeId} {k : KeyKind} (hk : keyKind P kt = some k) {x : AVal} (h : keyOk k x = true) {a : Value} (ha : V c x a) (em : Bool) (w : World) : (Instr.checkKey em 10000 kt a).run P w = .ok () w := by
 unfold keyKind at hk
 split at hk
 ·rename_i kk hd
  simp only [qa] at hk
  subst hk
  unfold keyOk at h
  split at h <;> first | (rename_i e; cases e; done) | skip
  ·simp only [V] at ha
   subst ha
   rename_i kx nx _
   have : ∀ n,(Instr.checkKey em (n + 1) kt (.int kx nx)).run P w = .ok () w := fun n => by simp [Instr.checkKey,run_underlying hd]
   exact this 9999
  ·cases h
 ·rename_i hd
  simp only [qa] at hk
  subst hk
  unfold keyOk at h
  split at h <;> first | (rename_i e; cases e; done) | skip
  ·simp only [V] at ha
   obtain ⟨s,rfl,_⟩ := ha
   have : ∀ n,(Instr.checkKey em (n + 1) kt (.string s)).run P w = .ok () w := fun n => by simp [Instr.checkKey,run_underlying hd]
   exact this 9999
  ·cases h
 ·rename_i n e hd
  split at hk
  ·rename_i kk he
   split at hk
   ·rename_i hsz
    simp only [qa] at hk
    subst hk
    unfold keyOk at h
    split at h <;> first | (rename_i e; cases e; done) | skip
    ·rename_i n' e' cs eq
     cases eq
     simp only [qj,beq_iff_eq] at h
     obtain ⟨hl,hall⟩ := h
     simp only [V] at ha
     obtain ⟨vs,rfl,hvs⟩ := ha
     have hlen := Vs_length hvs
     have hx : ∀ j,j < vs.toArray.size → ∃ k n,vs.toArray[j]? = some (.int k n) := by
      intro j hj
      simp only [List.size_toArray] at hj
      have hj' : j < cs.length := by omega
      obtain ⟨v,h1,h2⟩ := Vs_get hvs (qt hj')
      obtain ⟨k,n,e⟩ := intB_of (List.all_eq_true.1 hall _ (List.getElem_mem hj'))
      rw [e] at h2
      simp only [V] at h2
      subst h2
      exact ⟨k,n,by simpa using h1⟩
     show (Instr.checkKey em (9999 + 1) kt _).run P w = _
     unfold Instr.checkKey
     have hs : szOf P e = 1 := hsz
     simp only [Sem.run_bind,run_underlying hd,Result.andThen_ok]
     simp only [Std.Legacy.Range.forIn_eq_forIn_range',Std.Legacy.Range.size,Nat.sub_zero,Nat.add_one_sub_one,Nat.div_one]
     have := run_checks (P := P) he em 9998 vs.toArray hx w (List.range' 0 n) (by intro j hj; rw [List.mem_range'] at hj; simp; omega)
     have hso : ∀ w,(sizeOf e).run P w = .ok 1 w := fun w => by rw [run_sizeOf (info_of_underlying he),hs]
     have conv : ∀ (l : List Nat) w,(forIn l PUnit.unit (fun i _ => do Instr.checkKey em 9999 e (← part e vs.toArray (i * (← sizeOf e))); pure (ForInStep.yield PUnit.unit)) : Sem PUnit).run P w =
      (forIn l PUnit.unit (fun i _ => do Instr.checkKey em (9998 + 1) e (← part e vs.toArray i); pure (ForInStep.yield PUnit.unit)) : Sem PUnit).run P w := by
      intro l
      induction l with
      | nil => intro w; rfl
      | cons j l ih =>
       intro w
       rw [List.forIn_cons,List.forIn_cons]
       simp only [Sem.run_bind,hso,Result.andThen_ok,Nat.mul_one]
       cases hp : (part e vs.toArray j).run P w with
       | halt x w1 => simp [Result.andThen]
       | ok v w1 =>
        simp only [Result.andThen_ok]
        cases hq : (Instr.checkKey em 9999 e v).run P w1 with
        | halt x w2 => simp [Result.andThen]
        | ok u w2 =>
         simp only [Result.andThen_ok,Sem.run_pure]
         exact ih w2
     have h2 := (conv (List.range' 0 n) w).trans this
     rw [h2]
     rfl
    ·cases h
   ·cases hk
  ·cases hk
 ·cases hk
theorem run_findKey' {c : Cx} {kt : TypeId} {k : KeyKind} (hk : keyKind P kt = some k) {x : AVal} {a : Value} (ha : V c x a) (w : World) {es : List (AVal × AVal)} {ms : List MapEntry} {r : Option (Nat × AVal)}
 (h : findA k x es 0 = some r) (hes : Es c es ms) : (Instr.findKey kt a ms).run P w = .ok (hitOf ms 0 r) w := by
 obtain ⟨⟨h1,h2⟩,_⟩ := findA_sim hk ha w es ms 0 h hes
 cases hw : k.wide with
 | true =>
  have hwide : (match P.underlying kt with | some (.array _ _) | some (.struct _) => true | _ => false) = true := by
   unfold keyKind at hk
   split at hk
   ·simp only [qa] at hk; subst hk; cases hw
   ·simp only [qa] at hk; subst hk; cases hw
   ·rename_i hd; rw [hd]
   ·cases hk
  rw [run_findKey_eq w hwide]
  exact h1
 | false =>
  obtain ⟨D,hD⟩ : ∃ D,P.underlying kt = some D := by
   unfold keyKind at hk
   cases hd : P.underlying kt with
   | none => rw [hd] at hk; cases hk
   | some D => exact ⟨D,rfl⟩
  exact mfind hD (h2 D hD (fun e => by rw [hw] at e; cases e))
theorem lookupA_sim {c : Cx} {H : Heap} (hR : Rel c H) {t : TypeId} {m x r : AVal} {vm vx : Value} {ok : Bool} (h : lookupA P t H m x ok = some r) (hm : V c m vm) (hx : V c x vx) :
 ∃ u,(Instr.lookup t vm vx ok).run P c.w = .ok u c.w ∧ V c r u := by
 unfold lookupA at h
 split at h
 case h_2 => cases h
 rename_i kt et hd
 split at h
 case h_2 => cases h
 rename_i k z hk hz
 split at h
 case isFalse => cases h
 rename_i hok
 obtain ⟨zv,hz1,hz2⟩ := run_zeroValue (P := P) (c := c) hz c.w
 have fin : ∀ (v : Value) (a : AVal) (b : Bool),V c a v → V c (if ok then .tup [a,.bool b] else a) (if ok then .tuple #[v,.bool b] else v) := by
  intro v a b hv
  cases ok
  ·simpa using hv
  ·simp only [if_true,V]
   exact ⟨[v,.bool b],rfl,by simp only [Vs,V]; exact ⟨_,_,rfl,hv,_,_,rfl,rfl,rfl⟩⟩
 split at h
 ·simp only [qa] at h
  subst h
  simp only [V] at hm
  subst hm
  refine ⟨_, ?_,fin zv z false hz2⟩
  have hf := run_findKey' (P := P) hk hx c.w (es := []) (ms := []) (r := none) (by simp [findA]) (by simp [Es])
  simp only [Instr.lookup,Sem.run_bind,run_underlying hd,Result.andThen_ok,Sem.run_pure,keyOk_sim hk hok hx]
  simp only [hf,hitOf,Result.andThen_ok,Sem.run_bind,hz1,Sem.run_pure]
 ·rename_i b
  simp only [V] at hm
  obtain ⟨B,hi,rfl⟩ := hm
  split at h
  ·rename_i es hb
   obtain ⟨B',base',hi2,_,_,_,ms,clock,hmm,hes,_⟩ := hR.blk b _ hb
   rw [hi] at hi2
   simp only [qa,qe] at hi2
   obtain ⟨rfl,rfl⟩ := hi2
   split at h
   ·rename_i j v hf
    simp only [qa] at h
    subst h
    obtain ⟨_,h3⟩ := findA_sim hk hx c.w es ms.toList 0 hf hes
    obtain ⟨_,me,g1,g2,_⟩ := h3 j v rfl
    simp only [Nat.sub_zero] at g1
    have hrun := run_findKey' (P := P) hk hx c.w hf hes
    simp only [hitOf,Nat.sub_zero,g1,Option.map_some] at hrun
    refine ⟨_, ?_,fin me.val v true g2⟩
    simp only [Instr.lookup,Sem.run_bind,run_underlying hd,Result.andThen_ok,mget hmm,Sem.run_pure,keyOk_sim hk hok hx]
    simp only [hrun,Result.andThen_ok]
    rfl
   ·rename_i hf
    simp only [qa] at h
    subst h
    have hrun := run_findKey' (P := P) hk hx c.w hf hes
    simp only [hitOf] at hrun
    refine ⟨_, ?_,fin zv z false hz2⟩
    simp only [Instr.lookup,Sem.run_bind,run_underlying hd,Result.andThen_ok,mget hmm,Sem.run_pure,keyOk_sim hk hok hx]
    simp only [hrun,Result.andThen_ok,Sem.run_bind,hz1,Sem.run_pure]
   ·cases h
  ·cases h
 ·cases h
theorem Es_set {c : Cx} : ∀ {es : List (AVal × AVal)} {ms : List MapEntry} {i : Nat} {k v : AVal} {m : MapEntry},Es c es ms → V c k m.key → V c v m.val → Es c (es.set i (k,v)) (ms.set i m)
 | [],_,_,_,_,_,h,_,_ => by simp [Es] at h; subst h; simp [Es]
 | (k0,v0) :: es,_,0,k,v,m,h,hk,hv => by
  simp only [Es] at h
  obtain ⟨m0,ns,rfl,_,_,h3⟩ := h
  simp only [List.set_cons_zero,Es]
  exact ⟨m,ns,rfl,hk,hv,h3⟩
 | (k0,v0) :: es,_,i + 1,k,v,m,h,hk,hv => by
  simp only [Es] at h
  obtain ⟨m0,ns,rfl,h1,h2,h3⟩ := h
  simp only [List.set_cons_succ,Es]
  exact ⟨m0,_,rfl,h1,h2,Es_set h3 hk hv⟩
theorem Es_push {c : Cx} : ∀ {es : List (AVal × AVal)} {ms : List MapEntry} {k v : AVal} {m : MapEntry},Es c es ms → V c k m.key → V c v m.val → Es c (es ++ [(k,v)]) (ms ++ [m])
 | [],_,_,_,m,h,hk,hv => by
  simp [Es] at h
  subst h
  simp only [List.nil_append,Es]
  exact ⟨m,[],rfl,hk,hv,rfl⟩
 | (k0,v0) :: es,_,k,v,m,h,hk,hv => by
  simp only [Es] at h
  obtain ⟨m0,ns,rfl,h1,h2,h3⟩ := h
  simp only [List.cons_append,Es]
  exact ⟨m0,_,rfl,h1,h2,Es_push h3 hk hv⟩
theorem mapUpdateA_sim {c : Cx} {H : Heap} (hR : Rel c H) {lo : Nat} {t : TypeId} {m x v : AVal} {H' : Heap} {vm vx vv : Value} (h : mapUpdateA P lo t H m x v = some H') (hm : V c m vm) (hx : V c x vx) (hv : V c v vv) :
 ∃ c',Rel c' H' ∧ Tr c H c' H' ∧ Low lo c H c' H' ∧ (Instr.mapUpdate t vm vx vv).run P c.w = .ok () c'.w := by
 unfold mapUpdateA at h
 split at h
 case h_2 => cases h
 rename_i kt et hd
 split at h
 case h_2 => cases h
 rename_i k hk
 split at h
 case isFalse => cases h
 rename_i hok
 split at h
 case h_2 => cases h
 rename_i b
 split at h
 case isFalse => cases h
 rename_i hlo
 split at h
 case h_2 => cases h
 rename_i es hb
 simp only [V] at hm
 obtain ⟨B,hi,rfl⟩ := hm
 obtain ⟨B',base',hi2,_,hBlt,_,ms,clock,hmm,hes,hst⟩ := hR.blk b _ hb
 rw [hi] at hi2
 simp only [qa,qe] at hi2
 obtain ⟨rfl,rfl⟩ := hi2
 have upd : ∀ (es' : List (AVal × AVal)) (ms' : Array MapEntry) (clock' : Nat),Es c es' ms'.toList → Std ms' clock' →
  Rel { c with w := { c.w with heap := c.w.heap.setIfInBounds B (.map ms' clock') } } (H.set b (some (.mp es'))) ∧ Tr c H { c with w := { c.w with heap := c.w.heap.setIfInBounds B (.map ms' clock') } } (H.set b (some (.mp es'))) ∧
  Low lo c H { c with w := { c.w with heap := c.w.heap.setIfInBounds B (.map ms' clock') } } (H.set b (some (.mp es'))) := by
  intro es' ms' clock' hes' hst'
  obtain ⟨g1,g2⟩ := mheap (w := c.w) (o' := .map ms' clock') hmm
  obtain ⟨h1,h2⟩ := hR.update (blk' := .mp es') hb hi { c.w with heap := c.w.heap.setIfInBounds B (.map ms' clock') } (by simp) (fun X hX => g2 X hX) (fun X t n hs => by
   by_cases hX : X = B
   ·subst hX
    simp [World.shape?,hmm] at hs
   ·rw [shape_of_block (w := c.w)]
    ·exact hs
    ·exact g2 X hX) rfl rfl rfl (fun hE => ⟨rfl,ms',clock',g1,Es_ext hE _ _ hes',hst'⟩)
  exact ⟨h1,h2,hR.set_low hlo hb hi (fun X hX => g2 X hX) (fun y z hy hyz => by rw [qh,if_neg (fun e => hy e.symm)]; exact hyz) (fun _ _ h => h) (by simp)⟩
 split at h
 ·rename_i j v0 hf
  simp only [qa] at h
  subst h
  obtain ⟨_,h3⟩ := findA_sim hk hx c.w es ms.toList 0 hf hes
  obtain ⟨_,me,g1,g2,y,g3,g4,g5⟩ := h3 j v0 rfl
  simp only [Nat.sub_zero] at g1
  have hrun := run_findKey' (P := P) hk hx c.w hf hes
  simp only [hitOf,Nat.sub_zero,g1,Option.map_some] at hrun
  have hsame : Instr.sameBits 10000 me.key vx = true := by
   rcases keyEq_sim (P := P) hk g4 hx g5 c.w with ⟨_,hs⟩ | ⟨_,hs⟩
   ·exact hs
   ·cases hs
  have hms : ms[j]? = some me := by simpa using g1
  have hmod : (ms.modify j fun e => { e with key := vx,val := vv }).toList = ms.toList.set j { me with key := vx,val := vv } := by
   apply List.ext_getElem?
   intro q
   rw [qh]
   simp only [Array.getElem?_toList,Array.getElem?_modify]
   split
   ·rename_i hq
    subst hq
    have : j < ms.toList.length := by
     rcases qm j ms.toList.length with h | h
     ·exact h
     ·rw [qr h] at g1; cases g1
    rw [if_pos this,hms]
    rfl
   ·rfl
  obtain ⟨h4,h5,h6⟩ := upd (es.set j (x,v)) (ms.modify j fun e => { e with key := vx,val := vv }) clock (by rw [hmod]; exact Es_set hes hx hv) ⟨by rw [Array.size_modify]; exact hst.1,fun q m hq => by
   rw [Array.getElem?_modify] at hq
   split at hq
   ·rename_i e
    subst e
    rw [hms] at hq
    simp only [Option.map_some,qa] at hq
    rw [← hq]
    exact hst.2 j me hms
   ·exact hst.2 q m hq⟩
  refine ⟨_,h4,h5,h6, ?_⟩
  simp only [Instr.mapUpdate,Sem.run_bind,run_underlying hd,Result.andThen_ok,mget hmm,keyOk_sim hk hok hx,hrun,hms,Option.map_some,Option.getD_some,Instr.keyThatStays,hsame,if_true,Sem.run_pure]
  rw [mset _ hmm]
 ·rename_i hf
  simp only [qa] at h
  subst h
  have hrun := run_findKey' (P := P) hk hx c.w hf hes
  simp only [hitOf] at hrun
  obtain ⟨h4,h5,h6⟩ := upd (es ++ [(x,v)]) (ms.push { key := vx,val := vv,born := clock }) (clock + 1) (by rw [Array.toList_push]; exact Es_push hes hx hv) ⟨by rw [Array.size_push,hst.1],fun q m hq => by
   rw [Array.getElem?_push] at hq
   split at hq
   ·rename_i e
    simp only [qa] at hq
    rw [← hq,e]
    exact hst.1
   ·exact hst.2 q m hq⟩
  refine ⟨_,h4,h5,h6, ?_⟩
  simp only [Instr.mapUpdate,Sem.run_bind,run_underlying hd,Result.andThen_ok,mget hmm,keyOk_sim hk hok hx,hrun]
  rw [mset _ hmm]
 ·cases h
theorem decode_ascii {t : ByteArray} {pos : Nat} {c : UInt8} (h : t.data.toList[pos]? = some c) (hc : c < 128) : pos < t.size ∧ Utf8.decode t pos = (c.toNat,1) := by
 have hlt : pos < t.data.toList.length := by
  rcases qm pos t.data.toList.length with k | k
  ·exact k
  ·rw [qr k] at h; cases h
 have hs : pos < t.size := by simpa using hlt
 have hg : t.get! pos = c := by
  rw [Array.getElem?_toList] at h
  show t.data[pos]! = c
  rw [getElem!_def,h]
 refine ⟨hs, ?_⟩
 have hn : c.toNat < 0x80 := by simpa [UInt8.lt_iff_toNat_lt] using hc
 unfold Utf8.decode
 simp only [Nat.add_zero,hg]
 rw [if_pos hn]
theorem Es_at {c : Cx} : ∀ {es : List (AVal × AVal)} {ms : List MapEntry} {j : Nat} {k v : AVal},Es c es ms → es[j]? = some (k,v) → ∃ m,ms[j]? = some m ∧ V c k m.key ∧ V c v m.val
 | [],_,_,_,_,_,h => by simp at h
 | (k0,v0) :: es,ms,j,k,v,h,hj => by
  simp only [Es] at h
  obtain ⟨m,ns,rfl,h1,h2,h3⟩ := h
  cases j with
  | zero =>
   simp only [List.getElem?_cons_zero,qa,qe] at hj
   obtain ⟨rfl,rfl⟩ := hj
   exact ⟨m,rfl,h1,h2⟩
  | succ j =>
   rw [List.getElem?_cons_succ] at hj
   obtain ⟨m',g1,g2⟩ := Es_at h3 hj
   exact ⟨m',by rw [List.getElem?_cons_succ]; exact g1,g2⟩
theorem filt_born (p : Nat → Bool) : ∀ (l : List MapEntry) (k : Nat),(∀ (j : Nat) (m : MapEntry),l[j]? = some m → m.born = k + j) → l.filter (fun e => p e.born) = ((List.range' k l.length).filter p).filterMap (fun j => l[j - k]?)
 | [],k,_ => rfl
 | e :: l,k,h => by
  have h0 : e.born = k := h 0 e rfl
  have ih := filt_born p l (k + 1) (fun j m hj => by have := h (j + 1) m (by simpa using hj); omega)
  rw [qn,List.range'_succ,List.filter_cons,List.filter_cons,h0,ih]
  have e2 : ∀ L : List Nat,(∀ j ∈ L,k + 1 ≤ j) → L.filterMap (fun j => l[j - (k + 1)]?) = L.filterMap (fun j => (e :: l)[j - k]?) := fun L hL => by
   induction L with
   | nil => rfl
   | cons a L ihL =>
    have ha := hL a List.mem_cons_self
    simp only [List.filterMap_cons]
    rw [ihL fun j hj => hL j (List.mem_cons_of_mem _ hj)]
    have : (e :: l)[a - k]? = l[a - (k + 1)]? := by
     rw [show a - k = (a - (k + 1)) + 1 by omega,List.getElem?_cons_succ]
    rw [this]
  have hr : ∀ j ∈ (List.range' (k + 1) l.length).filter p,k + 1 ≤ j := fun j hj => by
   have := (List.mem_filter.1 hj).1
   rw [List.mem_range'] at this
   omega
  cases p k with
  | true =>
   simp only [if_true,List.filterMap_cons,Nat.sub_self,List.getElem?_cons_zero]
   rw [e2 _ hr]
  | false =>
   simp only [Bool.false_eq_true,if_false]
   exact e2 _ hr
theorem std_all {ms : Array MapEntry} {clock last : Nat} {seen : List Nat} (hs : Std ms clock) (h : seen = [] ∨ ms.size = 0 ∨ 0 < last) : (!seen.toArray.isEmpty && !ms.isEmpty && ms.all fun e => decide (e.born ≥ last)) = false := by
 rcases h with h | h | h
 ·subst h
  rfl
 ·have : ms = #[] := Array.eq_empty_of_size_eq_zero h
  subst this
  simp
 ·by_cases h0 : ms.size = 0
  ·have : ms = #[] := Array.eq_empty_of_size_eq_zero h0
   subst this
   simp
  ·have h1 : 0 < ms.size := by omega
   have hb := hs.2 0 ms[0] (by rw [Array.getElem?_eq_getElem h1])
   have : (ms.all fun e => decide (e.born ≥ last)) = false := by
    rw [Bool.eq_false_iff]
    intro ha
    rw [Array.all_eq_true] at ha
    have := ha 0 h1
    simp only [decide_eq_true_eq] at this
    omega
   rw [this,Bool.and_false]
theorem left_arr {ms : Array MapEntry} {clock : Nat} (hs : Std ms clock) (seen : List Nat) : ms.filter (fun e => !seen.toArray.contains e.born) = (((List.range' 0 ms.size).filter fun j => !seen.contains j).filterMap fun j => ms[j]?).toArray := by
 apply Array.ext'
 rw [Array.toList_filter]
 have := filt_born (fun j => !seen.contains j) ms.toList 0 (fun j m hj => by have := hs.2 j m (by simpa using hj); omega)
 simp only [Nat.sub_zero,Array.length_toList,Array.getElem?_toList] at this
 simpa using this
theorem nextA_sim {c : Cx} {H : Heap} (hR : Rel c H) {lo : Nat} {x r : AVal} {isString : Bool} {H' : Heap} {v : Value} {t : TypeId} (h : nextA lo H x isString = some (r,H')) (hx : V c x v) :
 ∃ c' u,Rel c' H' ∧ Tr c H c' H' ∧ Low lo c H c' H' ∧ V c' r u ∧ (Instr.next v isString t).run P c.w = .ok u c'.w := by
 unfold nextA at h
 split at h
 case h_3 => cases h
 case h_2 =>
  rename_i b
  split at h
  case h_2 => cases h
  rename_i m since seen last hb
  split at h
  case h_2 => cases h
  rename_i es hm
  split at h
  case isFalse => cases h
  rename_i hlo
  simp only [V] at hx
  obtain ⟨B,base,hi,rfl⟩ := hx
  obtain ⟨B',base',hi2,_,hBlt,hbase,Bm,hiM,hit⟩ := hR.blk b _ hb
  rw [hi] at hi2
  simp only [qa,qe] at hi2
  obtain ⟨rfl,rfl⟩ := hi2
  subst hbase
  obtain ⟨M',base',hi3,_,_,_,ms,clock,hmm,hes,hst⟩ := hR.blk m _ hm
  rw [hiM] at hi3
  simp only [qa,qe] at hi3
  obtain ⟨rfl,_⟩ := hi3
  have hlen : es.length = ms.size := by rw [Es_length hes,Array.length_toList]
  have get : (getObj B).run P c.w = .ok (.mapIter (some Bm) since seen.toArray last) c.w := by simp [getObj,Sem.run,hit]
  have getM : (getObj Bm).run P c.w = .ok (.map ms clock) c.w := by simp [getObj,Sem.run,hmm]
  have set : ∀ o,(setObj B o).run P c.w = .ok () { c.w with heap := c.w.heap.setIfInBounds B o } := fun o => by simp [setObj,Sem.run,hit]
  have hall := std_all hst (seen := seen) (last := last) (by
   rcases hlo.2 with k | k | k
   ·exact .inl k
   ·subst k; exact .inr (.inl (by rw [← hlen]; rfl))
   ·exact .inr (.inr k))
  have hleft := left_arr hst seen
  rw [hlen] at h
  split at h
  ·rename_i hn
   simp only [qa,qe] at h
   obtain ⟨rfl,rfl⟩ := h
   rw [hn] at hleft
   refine ⟨c,.tuple #[.bool false],hR,Tr.refl _ _,Low.refl _ _ _,by simp only [V]; exact ⟨[.bool false],rfl,by simp [Vs,V]⟩, ?_⟩
   simp only [Instr.next,Sem.run_bind,get,getM,Result.andThen_ok,hall,Bool.false_eq_true,if_false]
   generalize hL : Array.filter (fun e => !seen.toArray.contains e.born) ms = L
   rw [hleft] at hL
   subst hL
   simp [choose,Sem.run,Question.forced]
  ·rename_i j hn
   split at h
   case isFalse => cases h
   rename_i hjs
   split at h
   case h_2 => cases h
   rename_i kk vv hj
   simp only [qa,qe] at h
   obtain ⟨rfl,rfl⟩ := h
   obtain ⟨me,hme,hkv⟩ := Es_at hes hj
   have hme : ms[j]? = some me := by simpa using hme
   have hborn := hst.2 j me hme
   rw [hn] at hleft
   simp only [List.filterMap_cons,hme,List.filterMap_nil] at hleft
   obtain ⟨g1,g2⟩ := mheap (w := c.w) (o' := .mapIter (some Bm) since (seen ++ [j]).toArray clock) hit
   obtain ⟨h1,h2⟩ := hR.update (blk' := .mi m since (seen ++ [j]) clock) hb hi { c.w with heap := c.w.heap.setIfInBounds B (.mapIter (some Bm) since (seen ++ [j]).toArray clock) } (by simp) (fun X hX => g2 X hX) (fun X t n hs => by
    by_cases hX : X = B
    ·subst hX
     simp [World.shape?,hit] at hs
    ·rw [shape_of_block (w := c.w)]
     ·exact hs
     ·exact g2 X hX) rfl rfl rfl (fun hE => ⟨rfl,Bm,hE.ι _ _ hiM,g1⟩)
   rw [show ms.size = clock from hst.1.symm]
   refine ⟨_,.tuple #[.bool true,me.key,me.val],h1,h2,hR.set_low hlo.1 hb hi (fun X hX => g2 X hX) (fun y z hy hyz => by rw [qh,if_neg (fun e => hy e.symm)]; exact hyz) (fun _ _ h => h) (by simp), ?_, ?_⟩
   ·simp only [V]
    exact ⟨[.bool true,me.key,me.val],rfl,by
     simp only [Vs]
     exact ⟨_,_,rfl,by simp [V],_,_,rfl,V_ext h2.ext _ _ hkv.1,_,_,rfl,V_ext h2.ext _ _ hkv.2,rfl⟩⟩
   ·have hlt : me.born < since := by omega
    have hnl : ¬ me.born ≥ since := by omega
    simp only [Instr.next,Sem.run_bind,get,getM,Result.andThen_ok,hall,Bool.false_eq_true,if_false]
    generalize hL : Array.filter (fun e => !seen.toArray.contains e.born) ms = L
    rw [hleft] at hL
    subst hL
    have e1 : Array.filter (fun x : MapEntry => decide (x.born < since)) [me].toArray = #[me] := by simp [hlt]
    have e2 : Array.filter (fun x : MapEntry => decide (x.born ≥ since)) [me].toArray = #[] := by simp [hnl]
    rw [e1,e2]
    have hC : ((if (#[me] : Array MapEntry).isEmpty = true then #[none] else #[]) ++ Array.map some (#[me] ++ #[]) : Array (Option MapEntry)) = #[some me] := by simp
    rw [hC]
    have e3 : (choose (Question.mapNext 1)).run P c.w = .ok 0 c.w := by simp [choose,Sem.run,Question.forced]
    show Result.andThen ((choose (Question.mapNext 1)).run P c.w) _ = _
    rw [e3,Result.andThen_ok]
    have e4 : (#[some me] : Array (Option MapEntry))[0]? = some (some me) := rfl
    rw [e4]
    simp only [Sem.run_bind,set,Result.andThen_ok,Sem.run_pure,hborn,List.push_toArray]
  ·cases h
 rename_i b
 split at h
 case h_2 => cases h
 rename_i s pos hb
 split at h
 case isFalse => cases h
 rename_i hlo
 simp only [V] at hx
 obtain ⟨B,base,hi,rfl⟩ := hx
 obtain ⟨B',base',hi2,_,hBlt,hbase,tt,hm,hs⟩ := hR.blk b _ hb
 rw [hi] at hi2
 simp only [qa,qe] at hi2
 obtain ⟨rfl,rfl⟩ := hi2
 subst hbase
 have get : (getObj B).run P c.w = .ok (.stringIter tt pos) c.w := by simp [getObj,Sem.run,hm]
 have set : ∀ o,(setObj B o).run P c.w = .ok () { c.w with heap := c.w.heap.setIfInBounds B o } := fun o => by simp [setObj,Sem.run,hm]
 split at h
 ·rename_i hn
  simp only [qa,qe] at h
  obtain ⟨rfl,rfl⟩ := h
  have hge : ¬ pos < tt.size := by
   intro hlt
   rw [← hs,List.getElem?_eq_none_iff] at hn
   have : tt.data.toList.length = tt.size := Array.length_toList
   omega
  refine ⟨c,.tuple #[.bool false],hR,Tr.refl _ _,Low.refl _ _ _,by simp only [V]; exact ⟨[.bool false],rfl,by simp [Vs,V]⟩, ?_⟩
  simp only [Instr.next,Sem.run_bind,get,Result.andThen_ok,if_neg hge,Sem.run_pure]
 ·rename_i ch hn
  split at h
  case isFalse => cases h
  rename_i hc
  simp only [qa,qe] at h
  obtain ⟨rfl,rfl⟩ := h
  rw [← hs] at hn
  obtain ⟨hlt,hdec⟩ := decode_ascii hn hc
  obtain ⟨g1,g2⟩ := mheap (w := c.w) (o' := .stringIter tt (pos + 1)) hm
  obtain ⟨h1,h2⟩ := hR.update (blk' := .it s (pos + 1)) hb hi { c.w with heap := c.w.heap.setIfInBounds B (.stringIter tt (pos + 1)) } (by simp) (fun X hX => g2 X hX) (fun X t n hs => by
   by_cases hX : X = B
   ·subst hX
    simp [World.shape?,hm] at hs
   ·rw [shape_of_block (w := c.w)]
    ·exact hs
    ·exact g2 X hX) rfl rfl rfl (fun hE => ⟨rfl,tt,g1,hs⟩)
  refine ⟨_,.tuple #[.bool true,.int .i64 pos,.int .i32 ch.toNat],h1,h2,hR.set_low hlo hb hi (fun X hX => g2 X hX) (fun y z hy hyz => by rw [qh,if_neg (fun e => hy e.symm)]; exact hyz) (fun _ _ h => h) (by simp), ?_, ?_⟩
  ·simp only [V]
   exact ⟨[.bool true,.int .i64 pos,.int .i32 ch.toNat],rfl,by simp [Vs,V]⟩
  ·simp only [Instr.next,Sem.run_bind,get,Result.andThen_ok,if_pos hlt,hdec,set,Sem.run_pure]
   rfl
theorem rangeMA_sim {c : Cx} {H : Heap} (hR : Rel c H) {lo : Nat} {t : TypeId} {x r : AVal} {H' : Heap} {v : Value} (h : rangeMA P t H x = some (r,H')) (hx : V c x v) :
 ∃ c' u,Rel c' H' ∧ Tr c H c' H' ∧ Low lo c H c' H' ∧ V c' r u ∧ (Instr.range t v).run P c.w = .ok u c'.w := by
 unfold rangeMA at h
 split at h
 case h_2 => cases h
 rename_i kt et b hd
 split at h
 case h_2 => cases h
 rename_i es hb
 simp only [qa,qe] at h
 obtain ⟨rfl,rfl⟩ := h
 simp only [V] at hx
 obtain ⟨B,hi,rfl⟩ := hx
 obtain ⟨B',base',hi2,_,_,_,ms,clock,hmm,hes,hst⟩ := hR.blk b _ hb
 rw [hi] at hi2
 simp only [qa,qe] at hi2
 obtain ⟨rfl,_⟩ := hi2
 have hlen : es.length = clock := by rw [Es_length hes,Array.length_toList,hst.1]
 rw [hlen]
 have hadd := hR.add (H' := H ++ [some (.mi b clock [] clock)]) H.length (.mapIter (some B) clock #[] clock) (.mi b clock [] clock) (hR.fresh _ (qf _)) (by simp) (by simp) (by
  intro x y hxy
  rcases qm x H.length with h1 | h1
  ·rw [qg h1] at hxy
   exact .inr ⟨by omega,hxy⟩
  ·rw [qk h1] at hxy
   rcases Nat.eq_or_lt_of_le h1 with h2 | h2
   ·rw [← h2] at hxy
    simp at hxy
    exact .inl ⟨h2.symm,hxy.symm⟩
   ·rw [qr (by simp; omega)] at hxy
    cases hxy) (fun hE => ⟨rfl,B,hE.ι _ _ hi,by show (c.w.heap.push _)[c.w.heap.size]? = _; simp⟩)
 refine ⟨_,.pointer (some ⟨c.w.heap.size,0,none⟩),hadd.1,hadd.2, ?_, ?_, ?_⟩
 ·refine hR.add_low lo _ _ (qf _) (by simp) fun x y hxy => ?_
  rw [qg]
  ·exact hxy
  ·rcases qm x H.length with h | h
   ·exact h
   ·rw [qr h] at hxy; cases hxy
 ·simp only [V]
  exact ⟨c.w.heap.size,0,by simp [Cx.put],rfl⟩
 ·have getM : (getObj B).run P c.w = .ok (.map ms clock) c.w := by simp [getObj,Sem.run,hmm]
  simp only [Instr.range,Sem.run_bind,run_underlying hd,Result.andThen_ok,getM,Sem.run_pure]
  simp [newObj,Sem.run,Result.andThen]
  rfl
theorem entryA_sim {c : Cx} {H : Heap} (hR : Rel c H) {x r : AVal} {v : Value} (h : entryA H x = some r) (hx : V c x v) : ∃ u,V c r u ∧ (Instr.entry v).run P c.w = .ok u c.w := by
 unfold entryA at h
 split at h
 case h_2 => cases h
 rename_i b
 split at h
 case h_2 => cases h
 rename_i m since seen last hb
 split at h
 case h_2 => cases h
 rename_i j es hj hm
 split at h
 case isFalse => cases h
 rename_i hl
 rw [qd] at h
 obtain ⟨⟨k,w⟩,he,rfl⟩ := h
 simp only [V] at hx
 obtain ⟨B,base,hi,rfl⟩ := hx
 obtain ⟨B',base',hi2,_,hBlt,hbase,Bm,hiM,hit⟩ := hR.blk b _ hb
 rw [hi] at hi2
 simp only [qa,qe] at hi2
 obtain ⟨rfl,rfl⟩ := hi2
 subst hbase
 obtain ⟨M',base',hi3,_,_,_,ms,clock,hmm,hes,hst⟩ := hR.blk m _ hm
 rw [hiM] at hi3
 simp only [qa,qe] at hi3
 obtain ⟨rfl,_⟩ := hi3
 have hlen : es.length = clock := by rw [Es_length hes,Array.length_toList,hst.1]
 obtain ⟨me,hme,hkv⟩ := Es_at hes he
 have hme : ms[j]? = some me := by simpa using hme
 have get : (getObj B).run P c.w = .ok (.mapIter (some Bm) since seen.toArray last) c.w := by simp [getObj,Sem.run,hit]
 have getM : (getObj Bm).run P c.w = .ok (.map ms clock) c.w := by simp [getObj,Sem.run,hmm]
 have hback : seen.toArray.back? = some j := by rw [List.back?_toArray]; exact hj
 have hfind : ms.find? (fun x => x.born == j) = some me := by
  rw [← Array.find?_toList,List.find?_eq_some_iff_getElem]
  have hlt : j < ms.toList.length := by
   rw [Array.length_toList]
   rcases qm j ms.size with h | h
   ·exact h
   ·rw [Array.getElem?_eq_none h] at hme; cases hme
  refine ⟨by rw [hst.2 j me hme]; exact beq_self_eq_true j,j,hlt, ?_,fun q hq => ?_⟩
  ·have := hme
   rw [Array.getElem?_eq_getElem (by rwa [Array.length_toList] at hlt)] at this
   simpa using this
  ·have hq2 : q < ms.size := by rw [Array.length_toList] at hlt; omega
   have := hst.2 q ms[q] (by rw [Array.getElem?_eq_getElem hq2])
   simp [this]
   omega
 refine ⟨.tuple #[me.key,me.val], ?_, ?_⟩
 ·simp only [V]
  exact ⟨[me.key,me.val],rfl,by simp only [Vs]; exact ⟨_,_,rfl,hkv.1,_,_,rfl,hkv.2,rfl⟩⟩
 ·have hcl : (clock != last) = false := by rw [hl,hlen]; simp
  simp only [Instr.entry,Sem.run_bind,get,Result.andThen_ok,hback,getM,hcl,Bool.false_eq_true,if_false,hfind,Sem.run_pure]
end Go.Am

/- That the model's operations keep to the idealised ones: building, lengths; the quiet ones together. Generic: over any program. -/
namespace Go.Am
open Go.RowKit
variable {P : Program}
theorem foldl_put : ∀ (xs : List Value) (k off : Nat) (cells : Array Value),off + k + xs.length ≤ cells.size →
 ((xs.zipIdx k).foldl (fun cs (p : Value × Nat) => cs.setIfInBounds (off + p.2) p.1) cells).toList = cells.toList.take (off + k) ++ xs ++ cells.toList.drop (off + k + xs.length)
 | [],k,off,cells,_ => by simp
 | x :: xs,k,off,cells,h => by
  simp only [qn] at h
  simp only [List.zipIdx_cons,List.foldl_cons]
  rw [foldl_put xs (k + 1) off _ (by simp; omega)]
  rw [Array.toList_setIfInBounds,← Nat.add_assoc]
  have hll : cells.toList.length = cells.size := Array.length_toList
  have hlt : off + k < cells.toList.length := by omega
  rw [List.take_succ_eq_append_getElem (by simpa using hlt)]
  rw [List.drop_set_of_lt (by omega)]
  have e : off + k + 1 + xs.length = off + k + (xs.length + 1) := by omega
  simp only [List.getElem_set_self,List.take_set_of_le (qf _),qn,List.append_assoc,List.cons_append,List.nil_append,e]
theorem zipIdx_foldl (v : Value) (off : Nat) (cells : Array Value) (h : off + v.cells.size ≤ cells.size) :
 (v.cells.zipIdx.foldl (fun cs (p : Value × Nat) => cs.setIfInBounds (off + p.2) p.1) cells).toList = cells.toList.take off ++ v.cells.toList ++ cells.toList.drop (off + v.cells.size) := by
 have := foldl_put v.cells.toList 0 off cells (by simpa using h)
 rw [← Array.foldl_toList,Array.toList_zipIdx]
 simpa using this
def Ps (c : Cx) : List (Nat × AVal) → List (Nat × Value) → Prop
 | [],vs => vs = []
 | (i,a) :: as,vs => ∃ v us,vs = (i,v) :: us ∧ V c a v ∧ Ps c as us
theorem fillA_sim {c : Cx} {place : Nat → Option (Nat × Nat)} {place' : Nat → Option (Nat × Nat)} (hp : ∀ i,place i = place' i) : ∀ {parts : List (Nat × AVal)} {parts' : List (Nat × Value)} {cs cs' : List AVal} {vs : Array Value},
 fillA place cs parts = some cs' → Vs c cs vs.toList → Ps c parts parts' → ∃ vs',Instr.fill place' vs parts' = some vs' ∧ Vs c cs' vs'.toList
 | [],_,cs,cs',vs,h,hv,hq => by
  simp only [Ps] at hq
  subst hq
  simp only [fillA,qa] at h
  subst h
  exact ⟨vs,rfl,hv⟩
 | (i,a) :: parts,_,cs,cs',vs,h,hv,hq => by
  simp only [Ps] at hq
  obtain ⟨v,us,rfl,hav,hq⟩ := hq
  simp only [fillA] at h
  split at h
  ·cases h
  ·rename_i off size hpl
   split at h
   ·cases h
   ·rename_i hc
    simp only [not_or,Bool.not_eq_true,Bool.not_eq_false'] at hc
    obtain ⟨h1,h2,h3⟩ := hc
    have h1 := Decidable.of_not_not h1
    have hcv := cells_Vs hav (by simpa using h3)
    have hl := Vs_length hcv
    have hl2 := Vs_length hv
    simp only [Array.length_toList] at hl hl2
    have hle : off + v.cells.size ≤ vs.size := by omega
    obtain ⟨vs',h4,h5⟩ := fillA_sim hp (vs := v.cells.zipIdx.foldl (fun cs (p : Value × Nat) => cs.setIfInBounds (off + p.2) p.1) vs) h (by
     rw [zipIdx_foldl v off vs hle]
     refine Vs_append (Vs_append (Vs_take _ hv) hcv) ?_
     rw [hl]
     exact Vs_drop _ hv) hq
    refine ⟨vs', ?_,h5⟩
    have hnc : ¬ ((decide (v.cells.size ≠ size) || decide (off + v.cells.size > vs.size)) = true) := by simp; omega
    rw [Instr.fill,← hp,hpl]
    simp only
    rw [if_neg hnc]
    exact h4
def EvOn (S : AStat) (c : Cx) (ρ : List AVal) (a : Act) (xs : Array Operand) : Prop := ∀ x ∈ xs,V c (evalA S ρ x) (a.eval x)
theorem Ps_map {S : AStat} {c : Cx} {ρ : List AVal} {a : Act} : ∀ l : List (Nat × Operand),(∀ p ∈ l,V c (evalA S ρ p.2) (a.eval p.2)) → Ps c (l.map fun p => (p.1,evalA S ρ p.2)) (l.map fun p => (p.1,a.eval p.2))
 | [],_ => by simp [Ps]
 | (i,x) :: l,h => by
  simp only [List.map_cons,Ps]
  exact ⟨_,_,rfl,h (i,x) (List.mem_cons_self ..),Ps_map l fun p hp => h p (List.mem_cons_of_mem _ hp)⟩
theorem Vs_mapO {S : AStat} {c : Cx} {ρ : List AVal} {a : Act} : ∀ (l : List Operand),(∀ x ∈ l,V c (evalA S ρ x) (a.eval x)) → Vs c (l.map (evalA S ρ)) (l.map a.eval)
 | [],_ => by simp [Vs]
 | x :: l,h => by
  simp only [List.map_cons,Vs]
  exact ⟨_,_,rfl,h x (List.mem_cons_self ..),Vs_mapO l fun p hp => h p (List.mem_cons_of_mem _ hp)⟩
theorem run_places (fs : Array Field) (h : fs.all (fun f => (P.info? f.type).isSome) = true) (w : World) :
 (fs.mapM (fun f => Prod.mk f.offset <$> sizeOf f.type) : Sem (Array (Nat × Nat))).run P w = .ok (fs.map fun f => (f.offset,szOf P f.type)) w := by
 have key : ∀ l : List Field,l.all (fun f => (P.info? f.type).isSome) = true → (l.mapM (fun f => Prod.mk f.offset <$> sizeOf f.type) : Sem (List (Nat × Nat))).run P w = .ok (l.map fun f => (f.offset,szOf P f.type)) w := by
  intro l
  induction l with
  | nil => intro _; rfl
  | cons f l ih =>
   intro h
   simp only [List.all_cons,qj] at h
   simp [List.mapM_cons,run_sizeOf h.1,ih h.2]
 rw [Array.mapM_eq_mapM_toList]
 simp only [Sem.run_map,key fs.toList (by simpa using h),Result.andThen_ok]
 congr 1
 apply Array.ext'
 simp
theorem buildA_sim {c : Cx} {t : TypeId} {parts : List (Nat × AVal)} {parts' : Array (Nat × Value)} {r : AVal} (h : buildA P t parts = some r) (hp : Ps c parts parts'.toList) (w : World) :
 ∃ u,(Instr.build t parts').run P w = .ok u w ∧ V c r u := by
 unfold buildA at h
 split at h
 ·cases h
 ·rename_i z hz
  obtain ⟨zv,hz1,hz2⟩ := run_zeroValue (P := P) (c := c) hz w
  split at h
  ·cases h
  ·rename_i hone
   simp only [Bool.not_eq_true,Bool.not_eq_false'] at hone
   have hcz := cells_Vs hz2 (by simpa using hone)
   split at h
   ·rename_i fs hd
    split at h
    ·rename_i hall
     rw [qd] at h
     obtain ⟨cs,hf,rfl⟩ := h
     obtain ⟨vs',h1,h2⟩ := fillA_sim (place' := fun i => Option.map (fun f => (f.offset,szOf P f.type)) fs[i]?) (fun _ => rfl) hf hcz hp
     refine ⟨.agg vs', ?_, ?_⟩
     ·simp [Instr.build,hz1,run_underlying hd,run_places fs hall,h1]
     ·simp only [V]
      exact ⟨vs'.toList,rfl,h2⟩
    ·cases h
   ·rename_i n e hd
    split at h
    ·rename_i hok
     rw [qd] at h
     obtain ⟨cs,hf,rfl⟩ := h
     obtain ⟨vs',h1,h2⟩ := fillA_sim (place' := fun i => some (i * szOf P e,szOf P e)) (fun _ => rfl) hf hcz hp
     refine ⟨.agg vs', ?_, ?_⟩
     ·simp [Instr.build,hz1,run_underlying hd,run_sizeOf hok,h1]
     ·simp only [V]
      exact ⟨vs'.toList,rfl,h2⟩
    ·cases h
   ·cases h
theorem run_getMap {r : Nat} {ms : Array MapEntry} {clock : Nat} {w : World} (h : w.heap[r]? = some (.map ms clock)) : (getObj r).run P w = .ok (.map ms clock) w := by
 simp [getObj,Sem.run,h]
theorem lenA_sim {c : Cx} {H : Heap} (hR : Rel c H) {t : TypeId} {x r : AVal} {v : Value} (h : lenA P t H x = some r) (hv : V c x v) (ts : Array TypeId) (ty : TypeId) (h0 : ts[0]? = some t) :
 ∃ u,(Builtin.len_ ts ty #[v]).run P c.w = .ok u c.w ∧ V c r u := by
 unfold lenA at h
 split at h
 ·rename_i s hd
  simp only [qa] at h
  subst h
  simp only [V] at hv
  obtain ⟨s',rfl,rfl⟩ := hv
  exact ⟨.int .i64 s'.size,by simp [Builtin.len_,h0,run_underlying hd,goInt],by simp only [V,Array.length_toList]; rfl⟩
 ·cases h
 ·rename_i y n e hd _
  simp only [qa] at h
  subst h
  exact ⟨.int .i64 n,by simp [Builtin.len_,h0,run_underlying hd,goInt],by simp [V]⟩
 ·rename_i e hd
  simp only [qa] at h
  subst h
  simp only [V] at hv
  subst hv
  exact ⟨.int .i64 0,by simp [Builtin.len_,h0,run_underlying hd,goInt],by simp [V]⟩
 ·rename_i e sz rows ex hd
  simp only [qa] at h
  subst h
  simp only [V] at hv
  obtain ⟨a,cap,vs,rfl,_⟩ := hv
  exact ⟨.int .i64 rows.length,by simp [Builtin.len_,h0,run_underlying hd,goInt],by simp [V]⟩
 ·rename_i e sz b off len cap ex hd
  simp only [qa] at h
  subst h
  simp only [V] at hv
  obtain ⟨B,base,k,o,_,rfl,_⟩ := hv
  exact ⟨.int .i64 len,by simp [Builtin.len_,h0,run_underlying hd,goInt],by simp [V]⟩
 ·rename_i kt e hd
  simp only [qa] at h
  subst h
  simp only [V] at hv
  subst hv
  exact ⟨.int .i64 0,by simp [Builtin.len_,h0,run_underlying hd,goInt],by simp [V]⟩
 ·rename_i kt e b hd
  split at h
  ·rename_i es hb
   simp only [qa] at h
   subst h
   simp only [V] at hv
   obtain ⟨B,hi,rfl⟩ := hv
   obtain ⟨B',base',hi2,_,_,_,ms,clock,hm,hes,_⟩ := hR.blk b _ hb
   rw [hi] at hi2
   simp only [qa,qe] at hi2
   obtain ⟨rfl,rfl⟩ := hi2
   have hl := Es_length hes
   refine ⟨.int .i64 ms.size, ?_, ?_⟩
   ·simp [Builtin.len_,h0,run_underlying hd,run_getMap hm,goInt]
   ·simp [V,hl]
  ·cases h
 ·cases h
theorem nilCheckA_sim {c : Cx} {x r : AVal} {v : Value} (h : nilCheckA x = some r) (hv : V c x v) : V c r v ∧ ((∃ a,v = .pointer (some a)) ∨ ∃ f p q,v = .func (.func f) p q) := by
 unfold nilCheckA at h
 split at h <;> first
  | (cases h; done)
  | (simp only [qa] at h; subst h; refine ⟨hv, ?_⟩; simp only [V] at hv)
 ·obtain ⟨_,_,_,rfl⟩ := hv; exact .inl ⟨_,rfl⟩
 ·obtain ⟨_,_,_,rfl,_⟩ := hv; exact .inl ⟨_,rfl⟩
 ·obtain ⟨_,_,_,_,_,rfl,_⟩ := hv; exact .inl ⟨_,rfl⟩
 ·obtain ⟨_,_,rfl,_⟩ := hv; exact .inr ⟨_,_,_,rfl⟩
theorem OptV_map {S : AStat} {c : Cx} {ρ : List AVal} {a : Act} (x : Option Operand) (h : ∀ y ∈ x,V c (evalA S ρ y) (a.eval y)) : OptV c (x.map (evalA S ρ)) (x.map a.eval) := by
 cases x with
 | none => trivial
 | some x => exact h x rfl
theorem bytesOf_sim {c : Cx} : ∀ {rows : List (List AVal)} {l : List UInt8} {vs : List Value},bytesOf? rows = some l → Vss c 1 rows vs →
 ∃ ns : List Int,vs = ns.map (Value.int .u8) ∧ l = ns.map fun n => UInt8.ofNat n.toNat
 | [],l,vs,h,hv => by
  simp only [bytesOf?,qa] at h
  simp only [Vss] at hv
  subst h hv
  exact ⟨[],rfl,rfl⟩
 | r :: rs,l,vs,h,hv => by
  unfold bytesOf? at h
  split at h
  ·rename_i e; cases e
  ·rename_i n rs' e
   cases e
   rw [qd] at h
   obtain ⟨l',h1,rfl⟩ := h
   simp only [Vss,Vs,V] at hv
   obtain ⟨us,ws,rfl,_,⟨_,_,rfl,rfl,rfl⟩,h2⟩ := hv
   obtain ⟨ns,rfl,rfl⟩ := bytesOf_sim h1 h2
   exact ⟨n :: ns,rfl,rfl⟩
  ·cases h
theorem foldl_push (ns : List Int) : ∀ s : ByteArray,(ns.foldl (fun (r : ByteArray) n => r.push (UInt8.ofNat n.toNat)) s).data.toList = s.data.toList ++ ns.map fun n => UInt8.ofNat n.toNat := by
 induction ns with
 | nil => intro s; simp
 | cons n ns ih =>
  intro s
  simp only [List.foldl_cons,List.map_cons]
  rw [ih]
  simp [ByteArray.push]
theorem strOfA_sim {c : Cx} {H : Heap} (hR : Rel c H) {s d : TypeId} {x r : AVal} (h : strOfA P s d H x = some r) {v : Value} (hv : V c x v) : ∃ u,(convert s d v).run P c.w = .ok u c.w ∧ V c r u := by
 have main : ∀ {e : TypeId} {B o len cap : Nat} {rows : List (List AVal)} {vs : List Value} {l : List UInt8},P.underlying s = some (.slice e) → P.underlying d = some .string → P.underlying e = some (.int .u8) →
  bytesOf? rows = some l → rows.length = len → At c.w B o vs → Vss c 1 rows vs → ∃ u,(convert s d (.slice (some ⟨B,o,none⟩) len cap)).run P c.w = .ok u c.w ∧ V c (.str l) u := by
  intro e B o len cap rows vs l hs hd he hb hlen ha hvs
  obtain ⟨ns,rfl,rfl⟩ := bytesOf_sim hb hvs
  have hl := Vss_length hvs
  simp only [List.length_map,Nat.mul_one] at hl
  have hc : (loadCells ⟨B,o,none⟩ len).run P c.w = .ok (ns.map (Value.int .u8)).toArray c.w := by
   have := run_loadCells_list (P := P) c.w ⟨B,o,none⟩ (ns.map (Value.int .u8)) fun j v hj => by rw [add_plain]; exact ha j v hj
   rw [List.length_map,hl,hlen] at this
   exact this
  refine ⟨_,by rw [run_convert_bytes_string c.w s d e _ _ _ hs he hd,run_bytesToString c.w _ _ _ ns hc], ?_⟩
  simp only [V]
  exact ⟨_,rfl,by rw [foldl_push]; rfl⟩
 unfold strOfA at h
 split at h
 ·rename_i e hs hd
  split at h
  ·rename_i he
   simp only [qa] at h
   subst h
   simp only [V] at hv
   subst hv
   refine ⟨.string .empty, ?_,by simp only [V]; exact ⟨_,rfl,rfl⟩⟩
   rw [run_convert_bytes_string c.w s d e _ _ _ hs he hd]
   simp [Conv.bytesToString]
  ·rename_i sz rows ex he
   split at h
   ·rename_i hsz
    subst hsz
    rw [qd] at h
    obtain ⟨l,h1,rfl⟩ := h
    simp only [V] at hv
    obtain ⟨a,cap,vs,rfl,_,_,hm,hvs⟩ := hv
    rcases hm with hm | ⟨hsp,_,ha⟩
    ·subst hm
     simp only [bytesOf?,qa] at h1
     subst h1
     refine ⟨.string .empty, ?_,by simp only [V]; exact ⟨_,rfl,rfl⟩⟩
     rw [run_convert_bytes_string c.w s d e _ _ _ hs he hd]
     have hc : (loadCells a ([] : List Int).length).run P c.w = .ok ((([] : List Int).map (Value.int .u8)).toArray) c.w := run_loadCells_list (P := P) c.w a (([] : List Int).map (Value.int .u8)) fun j v hj => by simp at hj
     exact run_bytesToString c.w _ _ _ [] hc
    ·obtain ⟨B,o,sp⟩ := a
     simp only at hsp ha
     subst hsp
     exact main hs hd he h1 rfl ha (Vss_ext (Ext.of_pure c) _ _ _ hvs)
   ·cases h
  ·rename_i sz b off len cap ex he
   split at h
   ·rename_i hsz
    subst hsz
    split at h
    ·rename_i cs hb
     split at h
     ·rename_i hle
      rw [qd] at h
      obtain ⟨l,h1,rfl⟩ := h
      simp only [V] at hv
      obtain ⟨B,base,k,o,hi,rfl,h0,hlen,hk,_,_⟩ := hv
      obtain ⟨B',base',g1,_,_,_,_,vs,ha,hvs⟩ := hR.blk b _ hb
      rw [hi] at g1
      simp only [qa,qe] at g1
      obtain ⟨rfl,rfl⟩ := g1
      have hch := chunk_Vss (sz := 1) len (Vs_drop off hvs) (by rw [List.length_drop]; omega)
      by_cases hk0 : 0 < k
      ·have ho := h0 hk0
       subst ho
       exact main hs hd he h1 (chunk_length _ _ _) (At_take (len * 1) (At_drop off ha)) hch
      ·have hl0 : len = 0 := by omega
       subst hl0
       simp only [chunk,bytesOf?,qa] at h1
       subst h1
       refine main (rows := []) (vs := []) hs hd he rfl rfl (fun j v hj => by simp at hj) (by simp [Vss])
     ·cases h
    ·cases h
   ·cases h
  ·cases h
 ·cases h
theorem lacks_of {want : Array (String × TypeId)} {got : Array Method} : lacksA want got = false → lacking want got = [] := by
 intro h
 unfold lacksA at h
 unfold lacking
 rw [List.any_eq_false] at h
 rw [List.map_eq_nil_iff,List.filter_eq_nil_iff]
 intro m hm
 exact h m hm
theorem lacks_not {want : Array (String × TypeId)} {got : Array Method} : lacksA want got = true → lacking want got ≠ [] := by
 intro h
 unfold lacksA at h
 unfold lacking
 rw [List.any_eq_true] at h
 obtain ⟨m,hm,h⟩ := h
 intro e
 rw [List.map_eq_nil_iff,List.filter_eq_nil_iff] at e
 exact e m hm h
theorem typeAssertA_sim {c : Cx} {x : AVal} {xT t : TypeId} {ok : Bool} {r : AVal} (h : typeAssertA P x t ok = some r) {v : Value} (hv : V c x v) (w : World) :
 ∃ u,(Instr.typeAssert v xT t ok).run P w = .ok u w ∧ V c r u := by
 unfold typeAssertA at h
 split at h
 ·simp only [V] at hv
  subst hv
  split at h
  ·rename_i hc
   obtain ⟨rfl,hs⟩ := hc
   obtain ⟨d,hd⟩ := Option.isSome_iff_exists.1 hs
   rw [qd] at h
   obtain ⟨z,hz,rfl⟩ := h
   obtain ⟨u,h1,h2⟩ := run_zeroValue (P := P) (c := c) hz w
   refine ⟨.tuple #[u,.bool false], ?_,by simp only [V,Vs]; exact ⟨[u,.bool false],rfl,_,_,rfl,h2,_,_,rfl,rfl,rfl⟩⟩
   cases d <;> simp [Instr.typeAssert,run_underlying hd,h1]
  ·cases h
 ·rename_i t0 a
  simp only [V] at hv
  obtain ⟨u,rfl,hu⟩ := hv
  split at h
  ·rename_i want hd
   split at h
   ·rename_i i hi
    split at h
    ·rename_i hl
     split at h
     ·rename_i hok
      subst hok
      rw [qd] at h
      obtain ⟨z,hz,rfl⟩ := h
      obtain ⟨z',h1,h2⟩ := run_zeroValue (P := P) (c := c) hz w
      obtain ⟨m,hm⟩ := Go.missingMethod_some (lacks_not hl)
      refine ⟨.tuple #[z',.bool false], ?_,by simp only [V,Vs]; exact ⟨[z',.bool false],rfl,_,_,rfl,h2,_,_,rfl,rfl,rfl⟩⟩
      simp [Instr.typeAssert,run_underlying hd,run_typeInfo hi,hm,h1]
     ·cases h
    ·rename_i hl
     simp only [qa] at h
     subst h
     have hm := Go.missingMethod_none (lacks_of (by simpa using hl))
     cases ok
     ·refine ⟨.iface t0 u, ?_,by show V c (.iface t0 a) _; simp only [V]; exact ⟨u,rfl,hu⟩⟩
      simp [Instr.typeAssert,run_underlying hd,run_typeInfo hi,hm]
     ·refine ⟨.tuple #[.iface t0 u,.bool true], ?_,by show V c (.tup [.iface t0 a,.bool true]) _; simp only [V,Vs]; exact ⟨[.iface t0 u,.bool true],rfl,_,_,rfl,⟨u,rfl,hu⟩,_,_,rfl,rfl,rfl⟩⟩
      simp [Instr.typeAssert,run_underlying hd,run_typeInfo hi,hm]
   ·cases h
  ·rename_i d hd0 hd
   have hd2 : ∀ ms,d ≠ .interface ms := fun ms e => hd0 ms e
   split at h
   ·rename_i hut
    subst hut
    simp only [qa] at h
    subst h
    cases ok
    ·exact ⟨u,by cases d <;> first | exact absurd rfl (hd2 _) | simp [Instr.typeAssert,run_underlying hd],hu⟩
    ·refine ⟨.tuple #[u,.bool true], ?_,by show V c (.tup [a,.bool true]) _; simp only [V,Vs]; exact ⟨[u,.bool true],rfl,_,_,rfl,hu,_,_,rfl,rfl,rfl⟩⟩
     cases d <;> first | exact absurd rfl (hd2 _) | simp [Instr.typeAssert,run_underlying hd]
   ·rename_i hut
    split at h
    ·rename_i hok
     subst hok
     rw [qd] at h
     obtain ⟨z,hz,rfl⟩ := h
     obtain ⟨z',h1,h2⟩ := run_zeroValue (P := P) (c := c) hz w
     refine ⟨.tuple #[z',.bool false], ?_,by simp only [V,Vs]; exact ⟨[z',.bool false],rfl,_,_,rfl,h2,_,_,rfl,rfl,rfl⟩⟩
     cases d <;> first | exact absurd rfl (hd2 _) | simp [Instr.typeAssert,run_underlying hd,hut,h1]
    ·cases h
  ·cases h
 ·cases h
theorem quietA_sim {S : AStat} {c : Cx} {H : Heap} {ρ : List AVal} {a : Act} (hR : Rel c H) (o : Oper) (hev : EvOn S c ρ a o.op.operands) {r : AVal} (h : quietA S ρ H o.op = some r) :
 ∃ u,(execOp a.eval o).run S.P c.w = .ok (.value u) c.w ∧ V c r u := by
 obtain ⟨dst,op,type,pos,after,guard⟩ := o
 simp only at h hev
 unfold quietA at h
 split at h
 ·simp only [qa] at h; subst h; exact ⟨_,rfl,hev _ (by simp [Op.operands])⟩
 ·simp only [qa] at h; subst h; exact ⟨_,rfl,hev _ (by simp [Op.operands])⟩
 ·rename_i cnd x y
  have hc := hev cnd (by simp [Op.operands])
  split at h
  ·rename_i e
   simp only [qa] at h; subst h
   rw [e] at hc
   simp only [V] at hc
   exact ⟨a.eval x,by simp [execOp,hc,asBool],hev x (by simp [Op.operands])⟩
  ·rename_i e
   simp only [qa] at h; subst h
   rw [e] at hc
   simp only [V] at hc
   exact ⟨a.eval y,by simp [execOp,hc,asBool],hev y (by simp [Op.operands])⟩
  ·cases h
 ·rename_i t parts
  obtain ⟨u,h1,h2⟩ := buildA_sim (parts' := parts.map fun p => (p.1,a.eval p.2)) h (by simpa using Ps_map (c := c) (S := S) (ρ := ρ) (a := a) parts.toList (fun p hp => hev p.2 (by simp [Op.operands]; exact ⟨p.1,by simpa using hp⟩))) c.w
  exact ⟨u,by simp only [execOp,Sem.run_bind]; rw [h1]; rfl,h2⟩
 ·rename_i t x
  obtain ⟨u,h1,h2⟩ := loadA_sim hR h (hev x (by simp [Op.operands]))
  exact ⟨u,by simp [execOp,h1],h2⟩
 ·rename_i x
  obtain ⟨h1,h2⟩ := nilCheckA_sim h (hev x (by simp [Op.operands]))
  refine ⟨a.eval x, ?_,h1⟩
  rcases h2 with ⟨p,e⟩ | ⟨f,p,q,e⟩ <;> simp [execOp,e]
 ·rename_i op t x y yt
  obtain ⟨u,h1,h2⟩ := binA_sim h (hev x (by simp [Op.operands])) (hev y (by simp [Op.operands]))
  exact ⟨u,by simp only [execOp]; rw [Sem.run_bind,h1]; rfl,h2⟩
 ·rename_i op t x
  obtain ⟨u,h1,h2⟩ := unA_sim (P := S.P) h (hev x (by simp [Op.operands])) c.w
  exact ⟨u,by simp [execOp,h1],h2⟩
 ·rename_i s d x
  unfold convHA at h
  split at h
  ·rename_i v hv
   simp only [qa] at h
   subst h
   obtain ⟨u,h1,h2⟩ := convA_sim hv (hev x (by simp [Op.operands])) c.w
   exact ⟨u,by simp [execOp,h1],h2⟩
  ·obtain ⟨u,h1,h2⟩ := strOfA_sim hR h (hev x (by simp [Op.operands]))
   exact ⟨u,by simp [execOp,h1],h2⟩
 ·rename_i t x
  split at h
  ·cases h
  ·rename_i hif
   simp only [qa] at h; subst h
   refine ⟨.iface t (a.eval x), ?_,by simp only [V]; exact ⟨_,rfl,hev x (by simp [Op.operands])⟩⟩
   have : S.P.concrete t = true := by
    unfold ifaceB at hif
    unfold Program.concrete
    split at hif <;> first | (exact absurd rfl hif) | skip
    split <;> simp_all
   simp [execOp,run_makeInterface c.w t _ this]
 ·rename_i f first captured
  simp only [qa] at h; subst h
  refine ⟨.func f (first.map a.eval) (captured.map a.eval),rfl, ?_⟩
  simp only [V]
  exact ⟨first.toList.map a.eval,captured.toList.map a.eval,by congr 1 <;> (apply Array.ext'; simp),Vs_mapO _ (fun x hx => hev x (by simp [Op.operands]; exact .inl (by simpa using hx))),Vs_mapO _ (fun x hx => hev x (by simp [Op.operands]; exact .inr (by simpa using hx)))⟩
 ·rename_i t x lo hi mx
  obtain ⟨u,h1,h2⟩ := sliceA_sim hR h (hev x (by simp [Op.operands])) (OptV_map lo fun y hy => hev y (by cases hy; simp [Op.operands])) (OptV_map hi fun y hy => hev y (by cases hy; simp [Op.operands])) (OptV_map mx fun y hy => hev y (by cases hy; simp [Op.operands])) c.w
  exact ⟨u,by simp [execOp,h1],h2⟩
 ·rename_i t x f
  obtain ⟨u,h1,h2⟩ := fieldAddrA_sim h (hev x (by simp [Op.operands])) c.w
  exact ⟨u,by simp [execOp,h1],h2⟩
 ·rename_i t x f
  obtain ⟨u,h1,h2⟩ := fieldA_sim h (hev x (by simp [Op.operands])) c.w
  exact ⟨u,by simp [execOp,h1],h2⟩
 ·rename_i t x i
  obtain ⟨u,h1,h2⟩ := indexAddrA_sim h (hev x (by simp [Op.operands])) (hev i (by simp [Op.operands])) c.w
  exact ⟨u,by simp [execOp,h1],h2⟩
 ·rename_i t x i
  obtain ⟨u,h1,h2⟩ := indexA_sim h (hev x (by simp [Op.operands])) (hev i (by simp [Op.operands])) c.w
  exact ⟨u,by simp [execOp,h1],h2⟩
 ·rename_i t m x ok
  obtain ⟨u,h1,h2⟩ := lookupA_sim hR h (hev m (by simp [Op.operands])) (hev x (by simp [Op.operands]))
  exact ⟨u,by simp [execOp,h1],h2⟩
 ·rename_i x i
  split at h
  ·rename_i vs e
   have hx := hev x (by simp [Op.operands])
   rw [e] at hx
   simp only [V] at hx
   obtain ⟨us,e2,hus⟩ := hx
   obtain ⟨u,h1,h2⟩ := Vs_get hus h
   exact ⟨u,by simp [execOp,e2,Instr.extract,h1],h2⟩
  ·cases h
 ·rename_i args ts
  split at h
  ·rename_i t x ht hx
   obtain ⟨u,h1,h2⟩ := lenA_sim hR h (hev x (by simp [Op.operands,Call.operands]; exact Array.mem_of_getElem? hx)) ts type ht
   refine ⟨u, ?_,h2⟩
   have : (Builtin.len_ ts type (args.map a.eval)).run S.P c.w = .ok u c.w := by
    rw [← h1]
    simp [Builtin.len_,hx]
   simp [execOp,resolve,invoke,builtin,this]
  ·cases h
 ·rename_i args ts
  split at h
  ·rename_i k p k' q e
   simp only [qa] at h; subst h
   have hl := Vs_mapO (c := c) (S := S) (ρ := ρ) (a := a) args.toList (fun x hx => hev x (by simp [Op.operands,Call.operands]; simpa using hx))
   rw [e] at hl
   simp only [Vs,V] at hl
   obtain ⟨_,_,e1,rfl,_,_,rfl,rfl,rfl⟩ := hl
   refine ⟨.int k (if q < p then q else p), ?_,by simp only [V]⟩
   simp [execOp,resolve,invoke,builtin,Builtin.min_,e1,Builtin.min2]
  ·cases h
 ·rename_i args ts
  split at h
  ·rename_i k p k' q e
   simp only [qa] at h; subst h
   have hl := Vs_mapO (c := c) (S := S) (ρ := ρ) (a := a) args.toList (fun x hx => hev x (by simp [Op.operands,Call.operands]; simpa using hx))
   rw [e] at hl
   simp only [Vs,V] at hl
   obtain ⟨_,_,e1,rfl,_,_,rfl,rfl,rfl⟩ := hl
   refine ⟨.int k (if p < q then q else p), ?_,by simp only [V]⟩
   simp [execOp,resolve,invoke,builtin,Builtin.max_,e1,Builtin.max2]
  ·cases h
 ·rename_i x xT t ok
  obtain ⟨u,h1,h2⟩ := typeAssertA_sim (xT := xT) h (hev x (by simp [Op.operands])) c.w
  exact ⟨u,by simp [execOp,h1],h2⟩
 ·cases h
theorem extCall_sim {S : AStat} {c : Cx} {ρ : List AVal} {a : Act} (o : Oper) (hev : EvOn S c ρ a o.op.operands) {f : Operand} {args : Array Operand} {ts : Array TypeId} (ho : o.op = .call { callee := .value f,args := args,argTypes := ts })
 {g : FuncId} {first captured : List AVal} (e1 : evalA S ρ f = .fn (.func g) first captured) {r : AVal} (h : S.ext g (first ++ args.toList.map (evalA S ρ) ++ captured) = some r) :
 ∃ u,(execOp a.eval o).run S.P c.w = .ok (.value u) c.w ∧ V c r u := by
 have hf := hev f (by simp [ho,Op.operands,Call.operands])
 rw [e1] at hf
 simp only [V] at hf
 obtain ⟨vs,us,e2,h1,h2⟩ := hf
 have hl := Vs_mapO (c := c) (S := S) (ρ := ρ) (a := a) args.toList (fun x hx => hev x (by simp [ho,Op.operands,Call.operands]; first | exact .inr (by simpa using hx) | simpa using hx))
 obtain ⟨u,h3,h4⟩ := S.extOk _ _ _ h c _ (Vs_append (Vs_append h1 hl) h2)
 refine ⟨u, ?_,h4⟩
 rw [← h3]
 obtain ⟨dst,op,type,pos,after,guard⟩ := o
 simp only at ho
 subst ho
 simp only [execOp,Sem.run_bind,resolve,e2,Deferred.ofValue,Sem.run_pure,Result.andThen_ok,invoke]
 congr 2
 apply Array.ext'
 simp
theorem extInv_sim {S : AStat} {c : Cx} {ρ : List AVal} {a : Act} (o : Oper) (hev : EvOn S c ρ a o.op.operands) {rcv : Operand} {name : String} {args : Array Operand} {ts : Array TypeId} (ho : o.op = .call { callee := .invoke rcv name,args := args,argTypes := ts })
 {t : TypeId} {v0 : AVal} (e1 : evalA S ρ rcv = .iface t v0) {g : FuncId} {v1 : AVal} (hm : S.methV t name v0 = some (g,v1)) {r : AVal} (h : S.ext g (v1 :: args.toList.map (evalA S ρ)) = some r) :
 ∃ u,(execOp a.eval o).run S.P c.w = .ok (.value u) c.w ∧ V c r u := by
 have hf := hev rcv (by simp [ho,Op.operands,Call.operands])
 rw [e1] at hf
 simp only [V] at hf
 obtain ⟨u,e2,hu⟩ := hf
 have hl := Vs_mapO (c := c) (S := S) (ρ := ρ) (a := a) args.toList (fun x hx => hev x (by simp [ho,Op.operands,Call.operands]; first | exact .inr (by simpa using hx) | simpa using hx))
 obtain ⟨u1,hmet,hu1⟩ := S.methVOk _ _ _ _ _ hm c u hu
 obtain ⟨r',h3,h4⟩ := S.extOk _ _ _ h c (u1 :: args.toList.map a.eval) (by simp only [Vs]; exact ⟨_,_,rfl,hu1,hl⟩)
 refine ⟨r', ?_,h4⟩
 rw [← h3]
 have e3 : #[Value.iface t u] ++ args.map a.eval = (Value.iface t u :: args.toList.map a.eval).toArray := by
  apply Array.ext'; simp
 have e4 : ((Value.iface t u :: args.toList.map a.eval).toArray.extract 1 (Value.iface t u :: args.toList.map a.eval).toArray.size) = (args.toList.map a.eval).toArray := by
  apply Array.ext'
  rw [Array.toList_extract]
  simp only [List.extract_eq_take_drop,List.drop_succ_cons,List.drop_zero,List.size_toArray,qn,List.length_map]
  rw [List.take_of_length_le (by simp)]
 obtain ⟨dst,op,type,pos,after,guard⟩ := o
 simp only at ho
 subst ho
 simp only [execOp,Sem.run_bind,resolve,e2,Sem.run_pure,Result.andThen_ok,invoke,e3]
 simp only [List.getElem?_toArray,List.getElem?_cons_zero,callMethod,Sem.run_bind,run_program,Result.andThen_ok,hmet,e4]
 congr 2
 apply Array.ext'
 simp
end Go.Am

/- That the model's operations keep to the idealised ones: what makes a block. Generic: over any program. -/
namespace Go.Am
open Go.RowKit
variable {P : Program}
theorem range_cells (z : Array Value) (hz : 0 < z.size) : ∀ n,((List.range (n * z.size)).map fun i => z[i % z.size]!) = (List.replicate n z.toList).flatten
 | 0 => by simp
 | n + 1 => by
  have h0 : ((List.range z.size).map fun i => z[i % z.size]!) = z.toList := by
   apply List.ext_getElem?
   intro i
   by_cases hi : i < z.size
   ·simp [hi,Nat.mod_eq_of_lt hi]
   ·simp [hi]
  rw [Nat.succ_mul,Nat.add_comm,List.range_add,List.map_append,h0,List.map_map,List.replicate_succ,List.flatten_cons,← range_cells z hz n]
  congr 1
  apply List.map_congr_left
  intro i _
  simp
theorem range_zero_map (f : Nat → Value) : (Array.range 0).map f = #[] := by
 apply Array.ext'
 simp
theorem newCells {c : Cx} {b : Nat} {arr : Array Value} {t : TypeId} {cs : List AVal} (hE : Ext c (c.put b c.w.heap.size 0 (c.w.alloc (.cells arr t)))) (hv : Vs c cs arr.toList) :
 BlkRel (c.put b c.w.heap.size 0 (c.w.alloc (.cells arr t))) c.w.heap.size 0 (.cells cs) ∧ Room (c.w.alloc (.cells arr t)) c.w.heap.size arr.size := by
 have hs : (c.w.alloc (.cells arr t)).shape? c.w.heap.size = some (t,arr.size) := by
  have : (c.w.alloc (.cells arr t)).heap[c.w.heap.size]? = some (.cells arr t) := by
   show (c.w.heap.push _)[c.w.heap.size]? = _
   simp
  simp only [World.shape?]
  rw [this]
 have hl := Vs_length hv
 simp only [Array.length_toList] at hl
 refine ⟨⟨fun off _ => World.frozen?_alloc_new _ _ _ _,⟨t,arr.size,hs,by omega⟩,arr.toList,fun j v hj => ?_,Vs_ext hE _ _ hv⟩,⟨t,arr.size,hs,qf _⟩⟩
 simp only [Cx.put,Nat.zero_add,World.cell?_alloc_new]
 simpa using hj
structure Makes (S : AStat) (c : Cx) (a : Act) (o : Oper) (blk : ABlk) (mk : Nat → AVal) : Prop where
 run : ∃ obj u,(execOp a.eval o).run S.P c.w = .ok (.value u) (c.w.alloc obj) ∧
  ∀ b,Ext c (c.put b c.w.heap.size 0 (c.w.alloc obj)) → BlkRel (c.put b c.w.heap.size 0 (c.w.alloc obj)) c.w.heap.size 0 blk ∧ V (c.put b c.w.heap.size 0 (c.w.alloc obj)) (mk b) u
theorem put_ι (c : Cx) (b B base : Nat) (w : World) : (c.put b B base w).ι b = some (B,base) := by simp [Cx.put]
theorem newA_sim {S : AStat} {c : Cx} {ρ : List AVal} {a : Act} (o : Oper) (hev : EvOn S c ρ a o.op.operands) {blk : ABlk} {mk : Nat → AVal} (h : newA S ρ o.op = some (blk,mk)) :
 Makes S c a o blk mk := by
 obtain ⟨dst,op,type,pos,after,guard⟩ := o
 simp only at h hev
 unfold newA at h
 split at h
 ·rename_i t
  unfold allocA at h
  split at h
  ·rename_i z hz
   split at h
   ·rename_i hone
    simp only [qa,qe] at h
    obtain ⟨rfl,rfl⟩ := h
    obtain ⟨v,h1,h2⟩ := run_zeroValue (c := c) hz c.w
    refine ⟨.cells v.cells t,.pointer (some ⟨c.w.heap.size,0,none⟩), ?_,fun b hE => ?_⟩
    ·simp [execOp,Instr.alloc,h1,newVar,newRow]
    ·exact ⟨(newCells hE (cells_Vs h2 hone)).1,by simp only [V]; exact ⟨_,0,put_ι _ _ _ _ _,rfl⟩⟩
   ·cases h
  ·cases h
 ·rename_i t x
  unfold boxA at h
  split at h
  ·rename_i hone
   simp only [qa,qe] at h
   obtain ⟨rfl,rfl⟩ := h
   refine ⟨.cells (a.eval x).cells t,.pointer (some ⟨c.w.heap.size,0,none⟩), ?_,fun b hE => ?_⟩
   ·simp [execOp,Instr.box,newVar,newRow]
   ·exact ⟨(newCells hE (cells_Vs (hev x (by simp [Op.operands])) hone)).1,by simp only [V]; exact ⟨_,0,put_ι _ _ _ _ _,rfl⟩⟩
  ·cases h
 ·rename_i t len parts
  unfold buildSliceA at h
  split at h
  ·rename_i e hd
   split at h
   ·cases h
   ·rename_i z hz
    split at h
    ·rename_i hc
     obtain ⟨hzl,hs0,hone,hbig⟩ := hc
     rw [qd] at h
     obtain ⟨cs,hf,h⟩ := h
     simp only [qe] at h
     obtain ⟨rfl,rfl⟩ := h
     obtain ⟨v,h1,h2⟩ := run_zeroValue (c := c) hz c.w
     have hcv := cells_Vs h2 hone
     have hvl := Vs_length hcv
     simp only [Array.length_toList] at hvl
     have hinfo : (S.P.info? e).isSome = true := by
      unfold zeroA at hz
      cases hi : S.P.info? e with
      | none => simp [hi] at hz
      | some i => rfl
     have hrep : ∀ n,Vs c ((List.replicate n z.cells).flatten) ((List.replicate n v.cells.toList).flatten) := by
      intro n
      induction n with
      | zero => simp [Vs]
      | succ n ih => simp only [List.replicate_succ,List.flatten_cons]; exact Vs_append hcv ih
     have hvs : v.cells.size = szOf S.P e := by omega
     have hrow : ((Array.range (len * szOf S.P e)).map (v.cells[· % v.cells.size]!)).toList = (List.replicate len v.cells.toList).flatten := by
      rw [← range_cells v.cells (by omega) len,hvs]
      simp
     obtain ⟨vs',h3,h4⟩ := fillA_sim (c := c) (place' := fun i => some (i * szOf S.P e,szOf S.P e)) (fun _ => rfl) (vs := (Array.range (len * szOf S.P e)).map (v.cells[· % v.cells.size]!)) hf (by rw [hrow]; exact hrep len) (Ps_map (c := c) (S := S) (ρ := ρ) (a := a) parts.toList (fun p hp => hev p.2 (by simp [Op.operands]; exact ⟨p.1,by simpa using hp⟩)))
     have hlen' : vs'.size = len * szOf S.P e := by
      have := Vs_length h4
      simp only [Array.length_toList] at this
      rw [← this]
      have fl : ∀ {parts : List (Nat × AVal)} {cs cs' : List AVal},fillA (fun i => some (i * szOf S.P e,szOf S.P e)) cs parts = some cs' → cs'.length = cs.length := by
       intro parts
       induction parts with
       | nil => intro cs cs' h; simp only [fillA,qa] at h; rw [h]
       | cons p parts ih =>
        intro cs cs' h
        obtain ⟨i,x⟩ := p
        simp only [fillA] at h
        split at h
        ·cases h
        ·rename_i hc
         rw [ih h]
         simp only [not_or] at hc
         simp
         omega
      rw [fl hf]
      simp [hzl]
     refine ⟨.cells vs' e,.slice (some ⟨c.w.heap.size,0,none⟩) len len, ?_,fun b hE => ?_⟩
     ·have hnot : ¬ (len * szOf S.P e > 2 ^ 24) := by
       have : (2 : Nat) ^ 24 = 16777216 := by decide
       omega
      simp only [execOp,Sem.run_bind]
      have : (Instr.buildSlice t len (parts.map fun p => (p.1,a.eval p.2))).run S.P c.w = .ok (.slice (some ⟨c.w.heap.size,0,none⟩) len len) (c.w.alloc (.cells vs' e)) := by
       unfold Instr.buildSlice
       simp only [Sem.run_bind,run_underlying hd,Result.andThen_ok,run_sizeOf hinfo]
       rw [if_neg hnot]
       by_cases hz0 : len * szOf S.P e = 0
       ·have hl0 : len = 0 := by
         rcases Nat.mul_eq_zero.1 hz0 with h | h
         ·exact h
         ·exact absurd h hs0
        subst hl0
        simp only [Nat.zero_mul] at h3 ⊢
        have h3' : Instr.fill (fun i => some (i * szOf S.P e,szOf S.P e)) #[] ((parts.map fun p => (p.1,a.eval p.2)).toList) = some vs' := by
         rw [range_zero_map] at h3
         simpa using h3
        rw [if_pos (by simp)]
        simp only [Sem.run_pure,Sem.run_bind,Result.andThen_ok,range_zero_map]
        rw [h3']
        simp [newRow]
       ·have h3' : Instr.fill (fun i => some (i * szOf S.P e,szOf S.P e)) ((Array.range (len * szOf S.P e)).map (v.cells[· % v.cells.size]!)) ((parts.map fun p => (p.1,a.eval p.2)).toList) = some vs' := by
         simpa using h3
        rw [if_neg hz0]
        simp only [Sem.run_bind,h1,Result.andThen_ok,Sem.run_pure]
        rw [h3']
        simp [newRow]
      rw [this]
      rfl
     ·obtain ⟨h5,h6⟩ := newCells (t := e) hE h4
      refine ⟨h5, ?_⟩
      simp only [V]
      refine ⟨_,0,len,0,put_ι _ _ _ _ _,rfl,fun _ => rfl,qf _,qf _,(fun h => by cases h), ?_⟩
      simpa [Cx.put,hlen'] using h6
    ·cases h
  ·cases h
 ·rename_i t l cp
  unfold makeSliceA at h
  split at h
  ·rename_i e ln cn hd hl hcp
   split at h
   ·rename_i z hz
    split at h
    ·rename_i hcd
     obtain ⟨hlc,hbytes,hmax,hzl,hs0,hone⟩ := hcd
     simp only [qa,qe] at h
     obtain ⟨rfl,rfl⟩ := h
     obtain ⟨k1,n1,e1,h01,rfl⟩ := idxA_sim hl (hev l (by simp [Op.operands]))
     obtain ⟨k2,n2,e2,h02,rfl⟩ := idxA_sim hcp (hev cp (by simp [Op.operands]))
     obtain ⟨v,h1,h2⟩ := run_zeroValue (c := c) hz c.w
     have hcv := cells_Vs h2 hone
     have hvl := Vs_length hcv
     simp only [Array.length_toList] at hvl
     have hvs : v.cells.size = szOf S.P e := by omega
     have hinfo : (S.P.info? e).isSome = true := by
      unfold zeroA at hz
      cases hi : S.P.info? e with
      | none => simp [hi] at hz
      | some i => rfl
     obtain ⟨i,hi⟩ := Option.isSome_iff_exists.1 hinfo
     have hby : S.P.bytesOf e = i.bytes := by simp [Program.bytesOf,hi]
     rw [hby] at hbytes
     have hrow : ((Array.range (n2.toNat * szOf S.P e)).map (v.cells[· % v.cells.size]!)).toList = (List.replicate n2.toNat v.cells.toList).flatten := by
      rw [← range_cells v.cells (by omega) n2.toNat,hvs]
      simp
     have hrep : ∀ n,Vs c ((List.replicate n z.cells).flatten) ((List.replicate n v.cells.toList).flatten) := by
      intro n
      induction n with
      | zero => simp [Vs]
      | succ n ih => simp only [List.replicate_succ,List.flatten_cons]; exact Vs_append hcv ih
     have w1 : IntKind.i64.wrap n1 = n1 := Go.IntWalk.i64_in n1 (by omega)
     have w2 : IntKind.i64.wrap n2 = n2 := Go.IntWalk.i64_in n2 (by omega)
     refine ⟨.cells ((Array.range (n2.toNat * szOf S.P e)).map (v.cells[· % v.cells.size]!)) e,.slice (some ⟨c.w.heap.size,0,none⟩) n1.toNat n2.toNat, ?_,fun b hE => ?_⟩
     ·have hnot : ¬ ((i.bytes : Int) * n2 > 2 ^ 48) := by
       have : ((n2.toNat * i.bytes : Nat) : Int) = (i.bytes : Int) * n2 := by
        rw [Int.natCast_mul,Int.toNat_of_nonneg h02,Int.mul_comm]
       have h48 : (2 : Int) ^ 48 = 281474976710656 := by decide
       rw [h48,← this]
       omega
      have run : (Instr.makeSlice t (a.eval l) (a.eval cp)).run S.P c.w = .ok (.slice (some ⟨c.w.heap.size,0,none⟩) n1.toNat n2.toNat) (c.w.alloc (.cells ((Array.range (n2.toNat * szOf S.P e)).map (v.cells[· % v.cells.size]!)) e)) := by
       rw [e1,e2]
       unfold Instr.makeSlice
       simp only [Sem.run_bind,run_underlying hd,Result.andThen_ok,asInt,asIntOf,Sem.run_pure,run_typeInfo hi,w1,w2]
       have hcond : ((decide (n2 < 0) || decide ((i.bytes : Int) * n2 > 2 ^ 48)) || decide (n1 < 0) || decide (n1 > n2)) = false := by
        have : ¬ (281474976710656 < (i.bytes : Int) * n2) := by
         have h48 : (2 : Int) ^ 48 = 281474976710656 := by decide
         omega
        simp [this]
        omega
       rw [if_neg (by rw [hcond]; simp)]
       simp only [Sem.run_bind,run_askRoom,Result.andThen_ok,run_sizeOf hinfo]
       by_cases hz0 : n2.toNat * szOf S.P e = 0
       ·rw [if_pos hz0]
        simp only [hz0,Sem.run_pure,Sem.run_bind,Result.andThen_ok,range_zero_map]
        simp [newRow]
       ·rw [if_neg hz0]
        simp [h1,newRow]
      simp only [execOp,Sem.run_bind,run]
      rfl
     ·obtain ⟨h5,h6⟩ := newCells (t := e) hE (by rw [hrow]; exact hrep n2.toNat)
      refine ⟨h5, ?_⟩
      simp only [V]
      refine ⟨_,0,n2.toNat,0,put_ι _ _ _ _ _,rfl,fun _ => rfl,by omega,qf _,fun _ => rfl, ?_⟩
      simpa [Cx.put] using h6
    ·cases h
   ·cases h
  ·cases h
 ·rename_i t
  simp only [qa,qe] at h
  obtain ⟨rfl,rfl⟩ := h
  refine ⟨.map #[] 0,.map (some c.w.heap.size), ?_,fun b hE => ⟨⟨rfl,#[],0,by show (c.w.heap.push _)[c.w.heap.size]? = _; simp,by simp [Es],rfl,fun j m h => by simp at h⟩,by simp only [V]; exact ⟨_,put_ι _ _ _ _ _,rfl⟩⟩⟩
  simp [execOp,Instr.makeMap]
 ·rename_i t x
  unfold rangeA at h
  split at h
  ·rename_i s hu hx
   simp only [qa,qe] at h
   obtain ⟨rfl,rfl⟩ := h
   have hv := hev x (by simp [Op.operands])
   rw [hx] at hv
   simp only [V] at hv
   obtain ⟨tt,hv,hs⟩ := hv
   refine ⟨.stringIter tt 0,.pointer (some ⟨c.w.heap.size,0,none⟩), ?_,fun b hE => ⟨⟨rfl,tt,by show (c.w.heap.push _)[c.w.heap.size]? = _; simp,hs⟩,by simp only [V]; exact ⟨_,0,put_ι _ _ _ _ _,rfl⟩⟩⟩
   simp [execOp,Instr.range,hv,run_underlying hu,newObj]
   rfl
  ·cases h
 ·cases h
end Go.Am

/- That the model's operations keep to the idealised ones: stores and append. Generic: over any program. -/
namespace Go.Am
open Go.RowKit
variable {P : Program}
structure Wrote (w w' : World) (B o : Nat) (vs : List Value) : Prop where
 size : w'.heap.size = w.heap.size
 keep : ∀ X,X ≠ B → w'.heap[X]? = w.heap[X]?
 shape : ∀ X,w'.shape? X = w.shape? X
 frozen : ∀ a,w'.frozen? a = w.frozen? a
 os : w'.os = w.os
 tape : w'.tape = w.tape
 output : w'.output = w.output
 new : At w' B o vs
 old : ∀ off,off < o ∨ o + vs.length ≤ off → w'.cell? ⟨B,off,none⟩ = w.cell? ⟨B,off,none⟩
theorem Wrote.nil (w : World) (B o : Nat) : Wrote w w B o [] :=
 ⟨rfl,fun _ _ => rfl,fun _ => rfl,fun _ => rfl,rfl,rfl,rfl,(fun j v hj => by simp at hj),fun _ _ => rfl⟩
theorem shape_setCell (w : World) (a : Addr) (v : Value) (X : Nat) : (w.setCell a v).shape? X = w.shape? X := by
 simp only [World.shape?,World.setCell,Array.getElem?_modify]
 by_cases h : a.block = X
 ·rw [if_pos h]
  cases w.heap[X]? with
  | none => rfl
  | some o =>
   cases o with
   | cells cs e fz => cases hs : a.spot <;> simp
   | _ => rfl
 ·rw [if_neg h]
theorem cell_of_room {w : World} {B n off : Nat} (h : Room w B n) (ho : off < n) : ∃ u,w.cell? ⟨B,off,none⟩ = some u := by
 obtain ⟨t,m,hs,hn⟩ := h
 unfold World.shape? at hs
 split at hs
 ·rename_i cs e fz hh
  simp only [qa,qe] at hs
  obtain ⟨_,rfl⟩ := hs
  exact ⟨cs[off],by simp [World.cell?,hh,show off < cs.size by omega]⟩
 ·cases hs
theorem run_stores (B : Nat) : ∀ (vs : List Value) (o i : Nat) (w : World),Room w B (o + i + vs.length) → (∀ off,Room w B (off + 1) → w.frozen? ⟨B,off,none⟩ = false) → (∀ v ∈ vs,v.oneCell' = true) →
 ∃ w',(storeCells ⟨B,o,none⟩ vs i).run P w = .ok () w' ∧ Wrote w w' B (o + i) vs
 | [],o,i,w,_,_,_ => ⟨w,rfl,Wrote.nil _ _ _⟩
 | v :: vs,o,i,w,hr,hf,hone => by
  simp only [qn] at hr
  obtain ⟨u,hu⟩ := cell_of_room hr (off := o + i) (by omega)
  have hfz := hf (o + i) (hr.mono (by omega))
  have hstore : (store ⟨B,o + i,none⟩ v).run P w = .ok () (w.setCell ⟨B,o + i,none⟩ v) := by
   rw [run_store P w _ v .plain (hone v (List.mem_cons_self ..)),hu]
   simp [hfz]
  have hroom : ∀ n,Room w B n ↔ Room (w.setCell ⟨B,o + i,none⟩ v) B n := fun n => by simp only [Room,shape_setCell]
  obtain ⟨w',h1,h2⟩ := run_stores B vs o (i + 1) (w.setCell ⟨B,o + i,none⟩ v) ((hroom _).1 (hr.mono (by omega)))
   (fun off h => by rw [World.frozen?_setCell]; exact hf off ((hroom _).2 h)) (fun x hx => hone x (List.mem_cons_of_mem _ hx))
  refine ⟨w', ?_, ?_⟩
  ·simp only [storeCells,Sem.run_bind,add_plain,hstore,Result.andThen_ok]
   exact h1
  ·refine ⟨by rw [h2.size]; simp,fun X hX => by rw [h2.keep X hX]; exact Below.heap_setCell _ _ _ _ hX,fun X => by rw [h2.shape,shape_setCell],fun a => by rw [h2.frozen]; simp,h2.os,h2.tape,h2.output, ?_, ?_⟩
   ·intro j x hj
    cases j with
    | zero =>
     simp only [List.getElem?_cons_zero,qa] at hj
     subst hj
     rw [Nat.add_zero,h2.old (o + i) (.inl (by omega))]
     exact World.cell?_setCell_same _ _ _ hu
    | succ j =>
     simp only [List.getElem?_cons_succ] at hj
     have := h2.new j x hj
     rw [show o + i + (j + 1) = o + (i + 1) + j by omega]
     exact this
   ·intro off hoff
    simp only [qn] at hoff
    rw [h2.old off (by omega)]
    exact World.cell?_setCell_other _ _ _ _ (by intro e; simp only [Addr.mk.injEq] at e; omega)
theorem At_splice {w w' : World} {B base off : Nat} {vs new : List Value} (hw : Wrote w w' B (base + off) new) (ha : At w B base vs) (hle : off + new.length ≤ vs.length) :
 At w' B base (vs.take off ++ new ++ vs.drop (off + new.length)) := by
 intro j v hj
 rw [List.append_assoc] at hj
 rcases qm j off with h1 | h1
 ·rw [qg (by simp; omega),qx,if_pos h1] at hj
  rw [hw.old (base + j) (.inl (by omega))]
  exact ha j v hj
 ·rw [qk (by simp; omega)] at hj
  have e : (vs.take off).length = off := by simp; omega
  rw [e] at hj
  rcases qm (j - off) new.length with h2 | h2
  ·rw [qg h2] at hj
   have := hw.new (j - off) v hj
   rw [show base + off + (j - off) = base + j by omega] at this
   exact this
  ·rw [qk h2,qw] at hj
   rw [show off + new.length + (j - off - new.length) = j by omega] at hj
   rw [hw.old (base + j) (.inr (by omega))]
   exact ha j v hj
theorem Wrote.room {w w' : World} {B o : Nat} {vs : List Value} (h : Wrote w w' B o vs) {X n : Nat} : Room w' X n ↔ Room w X n := by simp only [Room,h.shape]
theorem Rel.write {c : Cx} {H : Heap} (hR : Rel c H) {b B base off : Nat} {cs new : List AVal} {vn : List Value} (hb : H[b]? = some (some (.cells cs))) (hi : c.ι b = some (B,base)) {w' : World}
 (hw : Wrote c.w w' B (base + off) vn) (hv : Vs c new vn) (hle : off + new.length ≤ cs.length) :
 Rel { c with w := w' } (H.set b (some (.cells (splice cs off new)))) ∧ Tr c H { c with w := w' } (H.set b (some (.cells (splice cs off new)))) := by
 obtain ⟨B0,base0,h3,_,_,h6⟩ := hR.blk b _ hb
 rw [hi] at h3
 simp only [qa,qe] at h3
 obtain ⟨rfl,rfl⟩ := h3
 obtain ⟨hf,hroom,vs,ha,hvs⟩ := h6
 have hl := Vs_length hvs
 have hn := Vs_length hv
 refine hR.update hb hi w' hw.size hw.keep (fun X t n h => by rw [hw.shape]; exact h) hw.os hw.tape hw.output fun hE => ⟨?_, ?_,vs.take off ++ vn ++ vs.drop (off + vn.length), ?_, ?_⟩
 ·intro o hr
  show w'.frozen? _ = false
  rw [hw.frozen]
  exact hf o (hw.room.1 hr)
 ·refine hw.room.2 (hroom.mono ?_)
  simp [splice]
  omega
 ·exact At_splice hw ha (by omega)
 ·unfold splice
  rw [hn]
  exact Vs_append (Vs_append (Vs_take _ (Vs_ext hE _ _ hvs)) (Vs_ext hE _ _ hv)) (Vs_drop _ (Vs_ext hE _ _ hvs))
def Does (S : AStat) (lo : Nat) (c : Cx) (H : Heap) (a : Act) (o : Oper) (r : AVal) (H' : Heap) : Prop :=
 ∃ c' u,Rel c' H' ∧ Tr c H c' H' ∧ Low lo c H c' H' ∧ V c' r u ∧
  ((execOp a.eval o).run S.P c.w = .ok (.value u) c'.w ∨ ((execOp a.eval o).run S.P c.w = .ok .skip c'.w ∧ u = undef))
theorem storeA_sim {S : AStat} {c : Cx} {H : Heap} {ρ : List AVal} {a : Act} (hR : Rel c H) (o : Oper) (hev : EvOn S c ρ a o.op.operands) {lo : Nat} {t : TypeId} {x v : Operand} {H' : Heap}
 (ho : o.op = .store t x v) (h : storeA S.P lo t H (evalA S ρ x) (evalA S ρ v) = some H') : Does S lo c H a o undefA H' := by
 obtain ⟨dst,op,type,pos,after,guard⟩ := o
 simp only at ho
 subst ho
 unfold storeA at h
 split at h
 ·rename_i b off ex
  split at h
  ·rename_i cs hb
   split at h
   ·rename_i hc
    obtain ⟨hlo,hsz,hinfo,hone,hle⟩ := hc
    simp only [qa] at h
    subst h
    have hx := hev x (by simp [Op.operands])
    rw [ex] at hx
    simp only [V] at hx
    obtain ⟨B,base,hi,e⟩ := hx
    obtain ⟨B0,base0,h3,_,_,hf,hroom,_⟩ := hR.blk b _ hb
    rw [hi] at h3
    simp only [qa,qe] at h3
    obtain ⟨rfl,rfl⟩ := h3
    have hcv := cells_Vs (hev v (by simp [Op.operands])) hone
    have hl := Vs_length hcv
    obtain ⟨w',h1,h2⟩ := run_stores (P := S.P) B (a.eval v).cells.toList (base + off) 0 c.w (hroom.mono (by omega)) hf (ones_of_Vs hcv hone)
    obtain ⟨h4,h5⟩ := hR.write hb hi h2 hcv (by omega)
    refine ⟨_,undef,h4,h5,hR.set_low hlo hb hi h2.keep (fun x y hx hxy => by rw [qh,if_neg (fun e => hx e.symm)]; exact hxy) (fun _ _ h => h) (by simp),by simp only [undefA,V]; exact ⟨[],rfl,by simp [Vs]⟩,.inr ⟨?_,rfl⟩⟩
    have hsz' : (a.eval v).cells.size = szOf S.P t := by
     simp only [Array.length_toList] at hl
     omega
    simp [execOp,Instr.storeAt,Instr.sureAddr,e,storeVar,run_sizeOf hinfo,hsz',h1]
   ·cases h
  ·cases h
 ·cases h
end Go.Am

/- That the model's operations keep to the idealised ones: append. Generic: over any program. -/
namespace Go.Am
open Go.RowKit
variable {P : Program}
theorem Vs_flat {c : Cx} {sz : Nat} : ∀ {rows : List (List AVal)} {vs : List Value},Vss c sz rows vs → Vs c rows.flatten vs
 | [],_,h => by simp [Vss] at h; subst h; simp [Vs]
 | r :: rows,_,h => by
  simp only [Vss] at h
  obtain ⟨us,ws,rfl,_,h1,h2⟩ := h
  simp only [List.flatten_cons]
  exact Vs_append h1 (Vs_flat h2)
theorem loadCells_At {w : World} {B o : Nat} {vs : List Value} (h : At w B o vs) : (loadCells ⟨B,o,none⟩ vs.length).run P w = .ok vs.toArray w :=
 run_loadCells_list w ⟨B,o,none⟩ vs fun j v hj => by rw [add_plain]; exact h j v hj
theorem rowsA_sim {c : Cx} {H : Heap} (hR : Rel c H) {sz : Nat} {x : AVal} {rows : List (List AVal)} {v : Value} (h : rowsA H sz x = some rows) (hv : V c x v) :
 (∀ w,(Builtin.lenOf v).run P w = .ok rows.length w) ∧ ∃ arr,(∀ w,w.heap = c.w.heap → (Builtin.firstCells sz rows.length v).run P w = .ok arr w) ∧ Vs c rows.flatten arr.toList ∧ arr.size = rows.length * sz := by
 unfold rowsA at h
 split at h
 ·simp only [qa] at h
  subst h
  simp only [V] at hv
  subst hv
  exact ⟨fun _ => rfl,#[],fun _ _ => by simp [Builtin.firstCells],by simp [Vs],by simp⟩
 ·rename_i s rws ex
  split at h
  ·rename_i hs
   subst hs
   simp only [qa] at h
   subst h
   simp only [V] at hv
   obtain ⟨a,cap,vs,rfl,_,_,hm,hvs⟩ := hv
   have hl := Vss_length hvs
   refine ⟨fun _ => rfl,vs.toArray,fun w hw => ?_,Vs_ext (Ext.of_pure c) _ _ (Vs_flat hvs),by simp [hl]⟩
   rcases hm with hm | ⟨hsp,_,ha⟩
   ·subst hm
    have hv0 : vs = [] := by simpa [Vss] using hvs
    subst hv0
    simp [Builtin.firstCells,loadCells,loadCellsFrom]
   ·obtain ⟨B,off,sp⟩ := a
    simp only at hsp ha
    subst hsp
    have := loadCells_At (P := P) (w := w) (ha.of_block (by rw [hw]))
    rw [hl] at this
    simp [Builtin.firstCells,this]
  ·cases h
 ·rename_i s
  split at h
  ·rename_i hs
   subst hs
   simp only [qa] at h
   subst h
   simp only [V] at hv
   obtain ⟨t,rfl,rfl⟩ := hv
   have hl : (t.data.toList.map fun b => [AVal.int .u8 b.toNat]).length = t.size := by
    simp only [List.length_map,Array.length_toList]
    rfl
   rw [hl]
   refine ⟨fun _ => rfl,(t.extract 0 t.size).data.map (fun b => .int .u8 b.toNat),fun _ _ => by simp [Builtin.firstCells], ?_, ?_⟩
   ·have e : (t.extract 0 t.size).data = t.data := by simp
    rw [e,Array.toList_map]
    generalize t.data.toList = l
    induction l with
    | nil => simp [Vs]
    | cons b l ih =>
     simp only [List.map_cons,List.flatten_cons,List.cons_append,List.nil_append,Vs]
     exact ⟨_,_,rfl,by simp [V],ih⟩
   ·have e : (t.extract 0 t.size).data = t.data := by simp
    rw [e,Array.size_map,Nat.mul_one]
    rfl
  ·cases h
 ·rename_i s b off len cap ex
  split at h
  ·rename_i hs
   subst hs
   split at h
   ·rename_i cs hb
    split at h
    ·rename_i hle
     simp only [qa] at h
     subst h
     simp only [V] at hv
     obtain ⟨B,base,k,o,hi,rfl,ho,h1,h2,_,_⟩ := hv
     obtain ⟨B0,base0,h3,_,_,_,_,vs,ha,hvs⟩ := hR.blk b _ hb
     rw [hi] at h3
     simp only [qa,qe] at h3
     obtain ⟨rfl,rfl⟩ := h3
     have hl := Vs_length hvs
     have hch := chunk_Vss (sz := s) len (Vs_drop off hvs) (by simp; omega)
     rw [chunk_length]
     have hvl := Vss_length hch
     rw [chunk_length] at hvl
     refine ⟨fun _ => rfl,((vs.drop off).take (len * s)).toArray,fun w hw => ?_,Vs_flat hch,by simpa using hvl⟩
     by_cases hk : 0 < k
     ·have ho' := ho hk
      subst ho'
      have := loadCells_At (P := P) (w := w) ((At_take (len * s) (At_drop off ha)).of_block (by rw [hw]))
      rw [hvl] at this
      simp [Builtin.firstCells,this]
     ·have hl0 : len = 0 := by omega
      subst hl0
      simp [Builtin.firstCells,loadCells,loadCellsFrom]
    ·cases h
   ·cases h
  ·cases h
 ·cases h
theorem chunk_flatten (sz : Nat) : ∀ (n : Nat) (cs : List AVal),n * sz ≤ cs.length → (chunk sz n cs).flatten = cs.take (n * sz)
 | 0,cs,_ => by simp [chunk]
 | n + 1,cs,h => by
  have e : (n + 1) * sz = sz + n * sz := by rw [Nat.succ_mul,Nat.add_comm]
  simp only [chunk,List.flatten_cons]
  rw [chunk_flatten sz n (cs.drop sz) (by simp; omega),e,List.take_add]
theorem Rel.drew {c : Cx} {H : Heap} (hR : Rel c H) : Rel { c with w := c.w.drew } H ∧ Tr c H { c with w := c.w.drew } H :=
 hR.step (fun _ => False) (fun _ h => h.elim) (fun _ _ h => h) rfl rfl (qf _) (fun _ _ _ => rfl) (fun _ _ _ h => h) rfl rfl rfl
  (fun _ b blk hb => by obtain ⟨B,base,h1,_⟩ := hR.blk b blk hb; exact .inl ⟨hb,B,base,h1,fun h => h⟩) hR.inj hR.fresh
theorem run_append_grow' {t u e : TypeId} {ty : TypeId} {i : TypeInfo} {z : Value} (ht : P.underlying t = some (.slice e)) (hu : ∃ d,P.underlying u = some d ∧ ∀ k,d ≠ .int k) (hi : P.info? e = some i) (hz : i.zero = some z)
 {base : Option Addr} {sLen sCap n : Nat} {x : Value} {w : World} {old new : Array Value} (hx : (Builtin.lenOf x).run P w = .ok n w)
 (hold : (Builtin.firstCells i.size sLen (.slice base sLen sCap)).run P w.drew = .ok old w.drew) (hnew : (Builtin.firstCells i.size n x).run P w.drew = .ok new w.drew)
 (hlt : sCap < sLen + n) (hb : (sLen + n) * i.bytes ≤ 140737488355328) (hb0 : i.bytes ≠ 0) :
 ∃ k,sLen + n ≤ k ∧ (Builtin.append_ #[t,u] ty #[.slice base sLen sCap,x]).run P w = .ok (.slice (some ⟨w.heap.size,0,none⟩) (sLen + n) k) (w.drew.alloc (.cells (old ++ new ++ Builtin.zeroCells z.cells (k - (sLen + n))) e)) := by
 obtain ⟨d,hd,hdi⟩ := hu
 have hq : (Question.appendCap (sLen + n) sCap e).forced = false := rfl
 refine ⟨(Question.appendCap (sLen + n) sCap e).cut (w.tape w.drawn (.appendCap (sLen + n) sCap e)),Nat.le_add_right _ _, ?_⟩
 have hnd : (match d with | .int _ => true | _ => false) = false := by
  cases d <;> first | rfl | exact absurd rfl (hdi _)
 have hfit := growslice_fits hlt hb
 have h48 : (2 : Nat) ^ 48 = 281474976710656 := by decide
 unfold Builtin.append_
 simp only [List.getElem?_toArray,List.getElem?_cons_zero,List.getElem?_cons_succ,Sem.run_bind,run_underlying ht,Result.andThen_ok,sizeOf,run_typeInfo hi,Sem.run_pure,run_underlying hd]
 cases d <;> first
  | (exact absurd rfl (hdi _))
  | (simp only [Sem.run_bind,hx,Result.andThen_ok,Bool.false_eq_true,if_false]
     rw [if_neg (show ¬ (sLen + n ≤ sCap) by omega)]
     simp only [Sem.run_bind,Result.andThen_ok,run_typeInfo hi]
     rw [if_neg (by simp [hb0])]
     simp only [Sem.run_bind,Result.andThen_ok,run_typeInfo hi]
     rw [if_neg (show ¬ (Builtin.nextslicecap (sLen + n) sCap * i.bytes > 2 ^ 48) by rw [h48]; omega)]
     simp only [Sem.run_bind,run_choose,hq,Bool.false_eq_true,if_false,Result.andThen_ok,run_askRoom,World.drew_eq,run_typeInfo hi,hold,hnew,Bool.not_false,if_true,zeroValue,hz,Sem.run_pure,newRow,run_newObj,World.alloc_eq]
     rfl)
theorem run_append_room' {t u e : TypeId} {ty : TypeId} {i : TypeInfo} (ht : P.underlying t = some (.slice e)) (hu : ∃ d,P.underlying u = some d ∧ ∀ k,d ≠ .int k) (hi : P.info? e = some i)
 {base : Option Addr} {sLen sCap n : Nat} {x : Value} {w w' : World} {new : Array Value} (hx : (Builtin.lenOf x).run P w = .ok n w) (hnew : (Builtin.firstCells i.size n x).run P w = .ok new w)
 (hle : sLen + n ≤ sCap) (hst : match base with | none => w' = w | some a => (storeCells (a.add (sLen * i.size)) new.toList).run P w = .ok () w') :
 (Builtin.append_ #[t,u] ty #[.slice base sLen sCap,x]).run P w = .ok (.slice base (sLen + n) sCap) w' := by
 obtain ⟨d,hd,hdi⟩ := hu
 unfold Builtin.append_
 simp only [List.getElem?_toArray,List.getElem?_cons_zero,List.getElem?_cons_succ,Sem.run_bind,run_underlying ht,Result.andThen_ok,sizeOf,run_typeInfo hi,Sem.run_pure,run_underlying hd]
 cases d <;> first
  | (exact absurd rfl (hdi _))
  | (simp only [Sem.run_bind,hx,Result.andThen_ok,Bool.false_eq_true,if_false]
     rw [if_pos hle]
     simp only [Sem.run_bind,Bool.not_false,if_true,hnew,Result.andThen_ok]
     cases base with
     | none => subst hst; rfl
     | some a => simp only [Sem.run_bind,hst,Result.andThen_ok,Sem.run_pure])
theorem splice_nil (cs : List AVal) (off : Nat) : splice cs off [] = cs := by simp [splice]
theorem zeroCells_size (z : Array Value) (n : Nat) : (Builtin.zeroCells z n).size = n * z.size := by simp [Builtin.zeroCells]
theorem newCells_more {c : Cx} {b : Nat} {arr rest : Array Value} {t : TypeId} {cs : List AVal} (hE : Ext c (c.put b c.w.heap.size 0 (c.w.alloc (.cells (arr ++ rest) t)))) (hv : Vs c cs arr.toList) :
 BlkRel (c.put b c.w.heap.size 0 (c.w.alloc (.cells (arr ++ rest) t))) c.w.heap.size 0 (.cells cs) ∧ Room (c.w.alloc (.cells (arr ++ rest) t)) c.w.heap.size (arr.size + rest.size) := by
 have hs : (c.w.alloc (.cells (arr ++ rest) t)).shape? c.w.heap.size = some (t,(arr ++ rest).size) := by
  have : (c.w.alloc (.cells (arr ++ rest) t)).heap[c.w.heap.size]? = some (.cells (arr ++ rest) t) := by
   show (c.w.heap.push _)[c.w.heap.size]? = _
   simp
  simp only [World.shape?]
  rw [this]
 have hl := Vs_length hv
 simp only [Array.length_toList] at hl
 refine ⟨⟨fun off _ => World.frozen?_alloc_new _ _ _ _,⟨t,_,hs,by simp; omega⟩,arr.toList,fun j v hj => ?_,Vs_ext hE _ _ hv⟩,⟨t,_,hs,by simp⟩⟩
 simp only [Cx.put,Nat.zero_add,World.cell?_alloc_new]
 have hj' : arr[j]? = some v := by simpa using hj
 have hlt : j < arr.size := by
  rcases qm j arr.size with h | h
  ·exact h
  ·rw [Array.getElem?_eq_none h] at hj'; cases hj'
 rw [Array.getElem?_append_left hlt]
 exact hj'
theorem newCells_mark {c : Cx} {b : Nat} {arr rest : Array Value} {t : TypeId} {cs : List AVal} (hE : Ext c (c.put b c.w.heap.size 0 (c.w.alloc (.cells (arr ++ rest) t ((arr ++ rest).size,(arr ++ rest).size + 1))))) (hv : Vs c cs arr.toList) :
 BlkRel (c.put b c.w.heap.size 0 (c.w.alloc (.cells (arr ++ rest) t ((arr ++ rest).size,(arr ++ rest).size + 1)))) c.w.heap.size 0 (.cells cs) ∧ Room (c.w.alloc (.cells (arr ++ rest) t ((arr ++ rest).size,(arr ++ rest).size + 1))) c.w.heap.size (arr.size + rest.size) := by
 have hb : (c.w.alloc (.cells (arr ++ rest) t ((arr ++ rest).size,(arr ++ rest).size + 1))).heap[c.w.heap.size]? = some (.cells (arr ++ rest) t ((arr ++ rest).size,(arr ++ rest).size + 1)) := by
  show (c.w.heap.push _)[c.w.heap.size]? = _
  simp
 have hs : (c.w.alloc (.cells (arr ++ rest) t ((arr ++ rest).size,(arr ++ rest).size + 1))).shape? c.w.heap.size = some (t,(arr ++ rest).size) := by
  simp only [World.shape?]
  rw [hb]
 have hl := Vs_length hv
 simp only [Array.length_toList] at hl
 refine ⟨⟨fun off hr => ?_,⟨t,_,hs,by simp; omega⟩,arr.toList,fun j v hj => ?_,Vs_ext hE _ _ hv⟩,⟨t,_,hs,by simp⟩⟩
 ·obtain ⟨t',m,h1,h2⟩ := hr
  have h1 : (c.w.alloc (.cells (arr ++ rest) t ((arr ++ rest).size,(arr ++ rest).size + 1))).shape? c.w.heap.size = some (t',m) := h1
  rw [hs] at h1
  simp only [qa,qe] at h1
  obtain ⟨_,rfl⟩ := h1
  show World.frozen? (c.w.alloc (.cells (arr ++ rest) t ((arr ++ rest).size,(arr ++ rest).size + 1))) ⟨c.w.heap.size,off,none⟩ = false
  unfold World.frozen?
  dsimp only
  rw [hb]
  simp only [Bool.and_eq_false_iff,decide_eq_false_iff_not]
  left
  omega
 ·have hj' : arr[j]? = some v := by simpa using hj
  have hlt : j < arr.size := by
   rcases qm j arr.size with h | h
   ·exact h
   ·rw [Array.getElem?_eq_none h] at hj'; cases hj'
  show World.cell? (c.w.alloc (.cells (arr ++ rest) t ((arr ++ rest).size,(arr ++ rest).size + 1))) ⟨c.w.heap.size,0 + j,none⟩ = some v
  unfold World.cell?
  dsimp only
  rw [hb]
  simp only [Nat.zero_add,Option.isSome_none,Bool.false_eq_true,if_false]
  rw [Array.getElem?_append_left hlt]
  exact hj'
theorem bytes_Vs {c : Cx} : ∀ l : List UInt8,Vs c (l.map fun b => AVal.int .u8 b.toNat) (l.map fun b => Value.int .u8 b.toNat)
 | [] => by simp [Vs]
 | b :: l => by
  simp only [List.map_cons,Vs]
  exact ⟨_,_,rfl,by simp [V],bytes_Vs l⟩
theorem bytesA_sim {c : Cx} {H : Heap} (hR : Rel c H) {lo : Nat} {s d : TypeId} {xa r : AVal} {H' : Heap} {x : Value} (h : bytesA P s d H xa = some (r,H')) (hx : V c xa x) :
 ∃ c' v,Rel c' H' ∧ Tr c H c' H' ∧ Low lo c H c' H' ∧ V c' r v ∧ (convert s d x).run P c.w = .ok v c'.w := by
 unfold bytesA at h
 split at h
 ·rename_i e t hs hd
  split at h
  ·rename_i he
   simp only [qa,qe] at h
   obtain ⟨rfl,rfl⟩ := h
   simp only [V] at hx
   obtain ⟨ts,rfl,ht⟩ := hx
   have hrun := run_bytes_of_string (P := P) c.w s d e ts hs hd he
   have hk : ts.size ≤ grownCap c.w ts.size 0 e := by unfold grownCap; exact Nat.le_add_right _ _
   generalize grownCap c.w ts.size 0 e = k at hrun hk
   unfold bytesRow at hrun
   have hl : ts.size = t.length := by rw [← ht]; simp
   have hR1 := hR.drew.1
   have hT1 := hR.drew.2
   have hv : Vs { c with w := c.w.drew } (t.map fun b => AVal.int .u8 b.toNat) (ts.data.map fun b => Value.int .u8 b.toNat).toList := by
    rw [Array.toList_map,ht]
    exact bytes_Vs t
   have hsz : (ts.data.map fun b => Value.int .u8 b.toNat).size = ts.size := by simp
   have hrz : (Array.replicate (k - ts.size) (Value.int .u8 0)).size = k - ts.size := by simp
   generalize (ts.data.map fun b => Value.int .u8 b.toNat) = arr at hrun hv hsz
   generalize Array.replicate (k - ts.size) (Value.int .u8 0) = rest at hrun hrz
   have hadd := hR1.add (H' := H ++ [some (.cells (t.map fun b => .int .u8 b.toNat))]) H.length (.cells (arr ++ rest) e ((arr ++ rest).size,(arr ++ rest).size + 1)) (.cells (t.map fun b => .int .u8 b.toNat))
    (hR1.fresh _ (qf _)) (by simp) (by simp) (by
     intro x y hxy
     rcases qm x H.length with h1 | h1
     ·rw [qg h1] at hxy
      exact .inr ⟨by omega,hxy⟩
     ·rw [qk h1] at hxy
      rcases Nat.eq_or_lt_of_le h1 with h2 | h2
      ·rw [← h2] at hxy
       simp at hxy
       exact .inl ⟨h2.symm,hxy.symm⟩
      ·rw [qr (by simp; omega)] at hxy
       cases hxy) (fun hE => (newCells_mark hE hv).1)
   refine ⟨_,_,hadd.1,hT1.trans hadd.2, ?_, ?_,hrun⟩
   ·refine Low.trans hT1.ext ⟨fun _ _ _ h => ⟨h,fun _ _ _ => rfl⟩,fun _ _ h => h,qf _⟩ (hR1.add_low lo _ _ (qf _) (by simp) fun x y hxy => ?_)
    rw [qg]
    ·exact hxy
    ·rcases qm x H.length with h | h
     ·exact h
     ·rw [qr h] at hxy; cases hxy
   ·have hroom := (newCells_mark hadd.2.ext hv).2
    simp only [V]
    refine ⟨c.w.heap.size,0,k,0,put_ι _ _ _ _ _, ?_,fun _ => rfl,qf _,by omega,(fun h => by cases h), ?_⟩
    ·rw [← hl]
    ·refine hroom.mono ?_
     omega
  ·cases h
 ·cases h
theorem appendA_sim {c : Cx} {H : Heap} (hR : Rel c H) {lo : Nat} {t u : TypeId} {ty : TypeId} {sa xa r : AVal} {H' : Heap} {s x : Value} (h : appendA P lo t u H sa xa = some (r,H')) (hs : V c sa s) (hx : V c xa x) :
 ∃ c' v,Rel c' H' ∧ Tr c H c' H' ∧ Low lo c H c' H' ∧ V c' r v ∧ (Builtin.append_ #[t,u] ty #[s,x]).run P c.w = .ok v c'.w := by
 unfold appendA at h
 split at h
 case h_2 => cases h
 rename_i e hd
 simp only at h
 split at h
 case isFalse => cases h
 rename_i hc
 obtain ⟨hinfo,hsz,hu,hz,hb0⟩ := hc
 have hu' : ∃ d,P.underlying u = some d ∧ ∀ k,d ≠ .int k := by
  unfold notIntB at hu
  cases hU : P.underlying u with
  | none => rw [hU] at hu; simp at hu
  | some d =>
   refine ⟨d,rfl,fun k hk => ?_⟩
   subst hk
   rw [hU] at hu
   simp at hu
 obtain ⟨i,hi⟩ := Option.isSome_iff_exists.1 hinfo
 have hsi : szOf P e = i.size := by simp [szOf,Program.cellsOf,hi]
 have hbi : P.bytesOf e = i.bytes := by simp [Program.bytesOf,hi]
 rw [hbi] at hb0 h
 have hzz : ∃ z,i.zero = some z ∧ z.cells.size = i.size := by
  unfold zeroFits at hz
  split at hz
  ·rename_i za hza
   simp only [qj,beq_iff_eq] at hz
   obtain ⟨zv,h1,h2⟩ := run_zeroValue (c := c) hza c.w
   have hl := Vs_length (cells_Vs h2 hz.2)
   have : i.zero = some zv := by
    simp only [zeroValue,Sem.run_bind,run_typeInfo hi,Result.andThen_ok] at h1
    cases hzi : i.zero with
    | none => rw [hzi] at h1; simp at h1
    | some y => rw [hzi] at h1; simp at h1; rw [h1]
   refine ⟨zv,this, ?_⟩
   simp only [Array.length_toList] at hl
   omega
  ·cases hz
 obtain ⟨z,hz1,hz2⟩ := hzz
 rw [hsi] at h hsz
 split at h
 case h_1 => cases h
 rename_i rows hrows
 split at h
 case isTrue => cases h
 rename_i hone
 have hone : rows.flatten.all AVal.one = true := by simpa using hone
 obtain ⟨hlen,new,hnew,hnv,hns⟩ := rowsA_sim (P := P) hR hrows hx
 have hvl := Vs_length hnv
 simp only [Array.length_toList] at hvl
 -- an append that grows
 have grow : ∀ (base : Option Addr) (sLen sCap : Nat) (csOld : List AVal) (old : Array Value),s = .slice base sLen sCap → Vs c csOld old.toList →
  (∀ w,w.heap = c.w.heap → (Builtin.firstCells i.size sLen (.slice base sLen sCap)).run P w = .ok old w) → old.size = sLen * i.size → sCap < sLen + rows.length → (sLen + rows.length) * i.bytes ≤ 140737488355328 →
  ∀ (H1 : Heap),Rel { c with w := c.w.drew } H1 → Tr c H { c with w := c.w.drew } H1 → Low lo c H { c with w := c.w.drew } H1 → H1.length = H.length →
  ∃ c' v,Rel c' (H1 ++ [some (.cells (csOld ++ rows.flatten))]) ∧ Tr c H c' (H1 ++ [some (.cells (csOld ++ rows.flatten))]) ∧ Low lo c H c' (H1 ++ [some (.cells (csOld ++ rows.flatten))]) ∧ V c' (.sl i.size H.length 0 (sLen + rows.length) (sLen + rows.length) false) v ∧
   (Builtin.append_ #[t,u] ty #[s,x]).run P c.w = .ok v c'.w := by
  intro base sLen sCap csOld old hs0 hov hold hos hlt hfit H1 hR1 hT1 hL1 hl1
  subst hs0
  obtain ⟨k,hk,hrun⟩ := run_append_grow' (ty := ty) hd hu' hi hz1 (w := c.w) (hlen c.w) (hold _ rfl) (hnew _ rfl) hlt hfit hb0
  have hov' := V_ext hT1.ext
  have hnv' := Vs_append (Vs_ext hT1.ext _ _ hov) (Vs_ext hT1.ext _ _ hnv)
  have hnv'' : Vs { c with w := c.w.drew } (csOld ++ rows.flatten) (old ++ new).toList := by simpa using hnv'
  have hadd := hR1.add (H' := H1 ++ [some (.cells (csOld ++ rows.flatten))]) H1.length (.cells (old ++ new ++ Builtin.zeroCells z.cells (k - (sLen + rows.length))) e) (.cells (csOld ++ rows.flatten))
   (hR1.fresh _ (qf _)) (by simp) (by simp) (by
    intro x y hxy
    rcases qm x H1.length with h1 | h1
    ·rw [qg h1] at hxy
     exact .inr ⟨by omega,hxy⟩
    ·rw [qk h1] at hxy
     rcases Nat.eq_or_lt_of_le h1 with h2 | h2
     ·rw [← h2] at hxy
      simp at hxy
      exact .inl ⟨h2.symm,hxy.symm⟩
     ·rw [qr (by simp; omega)] at hxy
      cases hxy) (fun hE => (newCells_more hE hnv'').1)
  refine ⟨_,.slice (some ⟨c.w.heap.size,0,none⟩) (sLen + rows.length) k,hadd.1,hT1.trans hadd.2,hL1.trans hT1.ext (hR1.add_low lo _ _ (qf _) (by simp) fun x y hxy => by rw [qg]; exact hxy; rcases qm x H1.length with h | h; exact h; rw [qr h] at hxy; cases hxy), ?_,hrun⟩
  have hroom := (newCells_more (hadd.2.ext) hnv'').2
  simp only [V]
  refine ⟨c.w.heap.size,0,k,0, ?_,rfl,fun _ => rfl,qf _,hk,(fun h => by cases h), ?_⟩
  ·rw [← hl1]
   exact put_ι _ _ _ _ _
  ·refine hroom.mono ?_
   rw [zeroCells_size,hz2,Array.size_append,hos,hns,← Nat.add_mul,← Nat.add_mul]
   have : sLen + rows.length + (k - (sLen + rows.length)) = k := by omega
   rw [this]
   simp
 split at h
 ·-- nil
  simp only [V] at hs
  subst hs
  split at h
  ·rename_i h0
   simp only [qa,qe] at h
   obtain ⟨rfl,rfl⟩ := h
   have hn0 : rows.length = 0 := h0
   refine ⟨c,.slice none 0 0,hR,Tr.refl _ _,Low.refl _ _ _,by simp [V], ?_⟩
   have := run_append_room' (ty := ty) (w' := c.w) hd hu' hi (base := none) (sLen := 0) (sCap := 0) (hlen c.w) (hnew c.w rfl) (by omega) rfl
   rw [hn0] at this
   exact this
  ·rename_i h0
   split at h
   ·rename_i hfit
    simp only [qa,qe] at h
    obtain ⟨rfl,rfl⟩ := h
    obtain ⟨c',v,h1,h2,h2',h3,h4⟩ := grow none 0 0 [] #[] rfl (by simp [Vs]) (fun _ _ => by simp [Builtin.firstCells]) (by simp) (by omega) (by simpa using hfit) H hR.drew.1 hR.drew.2 ⟨fun _ _ _ h => ⟨h,fun _ _ _ => rfl⟩,fun _ _ h => h,qf _⟩ rfl
    simp only [Nat.zero_add,List.nil_append] at h1 h2 h2' h3
    exact ⟨c',v,h1,h2,h2',h3,h4⟩
   ·cases h
 ·-- a list
  rename_i s0 rs ex
  split at h
  ·cases h
  rename_i hs0
  have hs0 : s0 = i.size := Decidable.of_not_not hs0
  subst hs0
  have hrs : rowsA H i.size (.list i.size rs ex) = some rs := by simp [rowsA]
  obtain ⟨hlen2,old,hold,hov,hos⟩ := rowsA_sim (P := P) hR hrs hs
  have hs' := hs
  simp only [V] at hs
  obtain ⟨a0,cap,vs,rfl,hcap,hex,_,hvs⟩ := hs
  split at h
  ·rename_i h0
   simp only [qa,qe] at h
   obtain ⟨rfl,rfl⟩ := h
   have hn0 : rows.length = 0 := h0
   have hnew0 : new.toList = [] := by
    have : new.size = 0 := by rw [hns,hn0]; simp
    simpa using this
   refine ⟨c,_,hR,Tr.refl _ _,Low.refl _ _ _,hs', ?_⟩
   have := run_append_room' (ty := ty) (w' := c.w) hd hu' hi (base := some a0) (sLen := rs.length) (sCap := cap) (hlen c.w) (hnew c.w rfl) (by omega) (by rw [hnew0]; rfl)
   rw [hn0] at this
   exact this
  ·rename_i h0
   split at h
   ·rename_i hcc
    obtain ⟨hx1,hall,hfit⟩ := hcc
    simp only [qa,qe] at h
    obtain ⟨rfl,rfl⟩ := h
    have := hex hx1
    subst this
    exact grow _ _ _ rs.flatten old rfl hov hold hos (by omega) hfit H hR.drew.1 hR.drew.2 ⟨fun _ _ _ h => ⟨h,fun _ _ _ => rfl⟩,fun _ _ h => h,qf _⟩ rfl
   ·cases h
 ·-- a slice of one's own
  rename_i s0 b off len cap ex
  split at h
  ·cases h
  rename_i hs0
  have hs0 : s0 = i.size := Decidable.of_not_not hs0
  subst hs0
  split at h
  case h_2 => cases h
  rename_i cs hb
  split at h
  case isFalse => cases h
  rename_i hle
  have hrs : rowsA H i.size (.sl i.size b off len cap ex) = some (chunk i.size len (cs.drop off)) := by simp [rowsA,hb,hle]
  obtain ⟨hlen2,old,hold,hov,hos⟩ := rowsA_sim (P := P) hR hrs hs
  rw [chunk_length] at hold hos
  rw [chunk_flatten _ _ _ (by simp; omega)] at hov
  have hs' := hs
  simp only [V] at hs
  obtain ⟨B,base,k,o,hi',rfl,ho,h1,h2,h3,h4⟩ := hs
  obtain ⟨B0,base0,h5,_,_,hf,hroom,_⟩ := hR.blk b _ hb
  rw [hi'] at h5
  simp only [qa,qe] at h5
  obtain ⟨rfl,rfl⟩ := h5
  -- an append in its place
  have inplace : len + rows.length ≤ k → ∃ w',(Builtin.append_ #[t,u] ty #[.slice (some ⟨B,o,none⟩) len k,x]).run P c.w = .ok (.slice (some ⟨B,o,none⟩) (len + rows.length) k) w' ∧
   ((0 < rows.length ∧ Wrote c.w w' B (base + (off + len * i.size)) new.toList) ∨ (rows.length = 0 ∧ w' = c.w)) := by
   intro hle2
   by_cases hn : rows.length = 0
   ·have hnew0 : new.toList = [] := by
     have : new.size = 0 := by rw [hns,hn]; simp
     simpa using this
    have := run_append_room' (ty := ty) (w' := c.w) hd hu' hi (base := some ⟨B,o,none⟩) (sLen := len) (sCap := k) (hlen c.w) (hnew c.w rfl) (by omega) (by rw [hnew0]; rfl)
    exact ⟨c.w,this,.inr ⟨hn,rfl⟩⟩
   ·have ho' := ho (by omega)
    subst ho'
    have hmul : len * i.size + rows.length * i.size ≤ k * i.size := by rw [← Nat.add_mul]; exact Nat.mul_le_mul_right _ hle2
    obtain ⟨w',hst,hw⟩ := run_stores (P := P) B new.toList (base + off + len * i.size) 0 c.w (h4.mono (by simp only [Array.length_toList,hns]; omega)) hf (ones_of_Vs hnv hone)
    refine ⟨w',run_append_room' (ty := ty) hd hu' hi (hlen c.w) (hnew c.w rfl) hle2 (by simp only [add_plain]; exact hst),.inl ⟨by omega, ?_⟩⟩
    rw [show base + (off + len * i.size) = base + off + len * i.size + 0 by omega]
    exact hw
  split at h
  ·rename_i h0
   have h0 : rows.length = 0 := h0
   simp only [qa,qe] at h
   obtain ⟨rfl,rfl⟩ := h
   obtain ⟨w',hrun,hw⟩ := inplace (by omega)
   rcases hw with ⟨hpos,hw⟩ | ⟨h0,rfl⟩
   ·omega
   ·rw [h0] at hrun
    exact ⟨c,_,hR,Tr.refl _ _,Low.refl _ _ _,hs',hrun⟩
  rename_i hne
  split at h
  ·rename_i hlc
   split at h
   ·rename_i hin
    simp only [qa,qe] at h
    obtain ⟨rfl,rfl⟩ := h
    obtain ⟨w',hrun,hw⟩ := inplace (by omega)
    rcases hw with ⟨hpos,hw⟩ | ⟨h0,rfl⟩
    ·have hmul : (len + rows.length) * i.size = len * i.size + rows.length * i.size := Nat.add_mul _ _ _
     obtain ⟨h6,h7⟩ := hR.write hb hi' hw hnv (by omega)
     refine ⟨_,_,h6,h7,hR.set_low hin.1 hb hi' hw.keep (fun x y hx hxy => by rw [qh,if_neg (fun e => hx e.symm)]; exact hxy) (fun _ _ h => h) (by simp), ?_,hrun⟩
     simp only [V]
     exact ⟨B,base,k,o,hi',rfl,ho,hlc,h2,h3,hw.room.2 h4⟩
    ·have hf0 : rows.flatten = [] := by
      have : rows.flatten.length = 0 := by rw [hvl,hns,h0]; simp
      exact qq this
     rw [hf0,splice_nil,h0]
     have hset : H.set b (some (.cells cs)) = H := by
      apply List.ext_getElem?
      intro j
      rw [qh]
      split
      ·rename_i hj
       subst hj
       split
       ·exact hb.symm
       ·rename_i hn; rw [qr (by omega)] at hb; cases hb
      ·rfl
     rw [hset]
     rw [h0] at hrun
     exact ⟨c,_,hR,Tr.refl _ _,Low.refl _ _ _,hs',hrun⟩
   ·cases h
  ·rename_i hlc
   split at h
   case isFalse => cases h
   rename_i hfit
   split at h
   ·rename_i hx1
    simp only [qa,qe] at h
    obtain ⟨rfl,rfl⟩ := h
    have := h3 hx1
    exact grow _ _ _ _ old rfl hov hold hos (by omega) hfit H hR.drew.1 hR.drew.2 ⟨fun _ _ _ h => ⟨h,fun _ _ _ => rfl⟩,fun _ _ h => h,qf _⟩ rfl
   ·rename_i hx1
    split at h
    case isFalse => cases h
    rename_i hend
    simp only [qa,qe] at h
    obtain ⟨rfl,rfl⟩ := h
    have htake : (cs.drop off).take (len * i.size) = cs.drop off := List.take_of_length_le (by simp; omega)
    rw [htake] at hov
    by_cases hk : len + rows.length ≤ k
    ·obtain ⟨w',hrun,hw⟩ := inplace hk
     rcases hw with ⟨hpos,hw⟩ | ⟨h0,_⟩
     ·have ho' := ho (by omega)
      subst ho'
      obtain ⟨_,_,_,_,_,_,_,vs,ha,hvs⟩ := hR.blk b _ hb
      rename_i hBx _ _ _ _
      rw [hi'] at hBx
      simp only [qa,qe] at hBx
      obtain ⟨rfl,rfl⟩ := hBx
      have hl2 := Vs_length hvs
      have hmul : len * i.size + rows.length * i.size ≤ k * i.size := by rw [← Nat.add_mul]; exact Nat.mul_le_mul_right _ hk
      have hren := hR.renew (base' := base + off) (blk' := .cells (cs.drop off ++ rows.flatten)) hb hi' w' hw.size hw.keep (fun X t n h => by rw [hw.shape]; exact h) hw.os hw.tape hw.output (fun hE => by
       refine ⟨?_, ?_,vs.drop off ++ new.toList, ?_, ?_⟩
       ·intro q hr
        show w'.frozen? _ = false
        rw [hw.frozen]
        exact hf q (hw.room.1 hr)
       ·refine hw.room.2 (h4.mono ?_)
        rw [qo,List.length_drop,hvl,hns]
        omega
       ·show At w' B (base + off) _
        intro j v hj
        rcases qm j (vs.drop off).length with hj1 | hj1
        ·rw [qg hj1] at hj
         rw [hw.old _ (.inl (by simp at hj1; omega))]
         exact At_drop off ha j v hj
        ·rw [qk hj1] at hj
         have := hw.new _ v hj
         simp only [List.length_drop] at this hj1
         rw [show base + (off + len * i.size) + (j - (vs.length - off)) = base + off + j by omega] at this
         exact this
       ·exact Vs_append (Vs_drop _ (Vs_ext hE _ _ hvs)) (Vs_ext hE _ _ hnv))
      refine ⟨_,_,hren.1,hren.2,hR.set_low hend.1 hb hi' hw.keep (fun x y hx hxy => by
       have hxl : x < H.length := by
        rcases qm x H.length with h | h
        ·exact h
        ·rw [qr h] at hxy; cases hxy
       rw [qg (by simpa using hxl),qh,if_neg (fun e => hx e.symm)]
       exact hxy) (fun x hx h => by simp only [Cx.put]; rw [if_neg (by omega)]; exact h) (by simp), ?_,hrun⟩
      simp only [V]
      refine ⟨B,base + off,k,base + off,put_ι _ _ _ _ _,rfl,fun _ => rfl,qf _,hk,(fun h => by cases h), ?_⟩
      exact hw.room.2 (h4.mono (by omega))
     ·omega
    ·have hdrop := hR.drop b
     have hdr := hdrop.1.drew
     exact grow _ _ _ _ old rfl hov hold hos (by omega) hfit (H.set b none) hdr.1 (hdrop.2.trans hdr.2)
      (hR.set_low hend.1 hb hi' (fun _ _ => rfl) (fun x y hx hxy => by rw [qh,if_neg (fun e => hx e.symm)]; exact hxy) (fun _ _ h => h) (by simp)) (by simp)
 ·cases h
end Go.Am

/- The idealised run of a function's code. Generic: over any program. -/
namespace Go.Am
inductive AExit where
 | normal
 | exit (id : Nat)
 | ret
 deriving DecidableEq,Inhabited
def guardA (ops : List Oper) (ρ : List AVal) (o : Oper) : Option Bool :=
 match o.guard with
 | none => some true
 | some (j,want) =>
  match (ops[j]?).bind (·.dst) with
  | none => some false
  | some d =>
   match ρ[d]? with
   | none => some false
   | some (.bool b) => some (b == want)
   | some .junk => none
   | some _ => some false
abbrev CallF := Nat → FuncId → List AVal → Heap → Option (AVal × Heap)
def putA (ρ : List AVal) (dst : Option Tmp) (v : AVal) : List AVal :=
 match dst with
 | some d => ρ.set d v
 | none => ρ
def effA (S : AStat) (call : CallF) (lo : Nat) (ρ : List AVal) (H : Heap) : Op → Option (AVal × Heap)
 | .store t x v => (storeA S.P lo t H (evalA S ρ x) (evalA S ρ v)).map fun H' => (undefA,H')
 | .mapUpdate t m k v => (mapUpdateA S.P lo t H (evalA S ρ m) (evalA S ρ k) (evalA S ρ v)).map fun H' => (undefA,H')
 | .insert t m k v => (mapUpdateA S.P lo t H (evalA S ρ m) (evalA S ρ k) (evalA S ρ v)).map fun H' => (undefA,H')
 | .next x isString => nextA lo H (evalA S ρ x) isString
 | .range t x => rangeMA S.P t H (evalA S ρ x)
 | .entry x => (entryA H (evalA S ρ x)).map fun v => (v,H)
 | .convert s d x => bytesA S.P s d H (evalA S ρ x)
 | .call { callee := .builtin .append,args := args,argTypes := ts } =>
  match args.toList.map (evalA S ρ),ts.toList with
  | [s,x],[t,u] => appendA S.P lo t u H s x
  | _,_ => none
 | .call { callee := .value f,args := args,.. } =>
  match evalA S ρ f with
  | .fn (.func g) first captured =>
   match S.ext g (first ++ args.toList.map (evalA S ρ) ++ captured) with
   | some v => some (v,H)
   | none => call lo g (first ++ args.toList.map (evalA S ρ) ++ captured) H
  | _ => none
 | .call { callee := .invoke r name,args := args,.. } =>
  match evalA S ρ r with
  | .iface t v =>
   match S.meth t name,nk v with
   | some g,some (.p,_) => call lo g (v :: args.toList.map (evalA S ρ)) H
   | _,_ => match S.methV t name v with
    | some (g,v') => (S.ext g (v' :: args.toList.map (evalA S ρ))).map fun r => (r,H)
    | none => none
  | _ => none
 | _ => none
def opA (S : AStat) (call : CallF) (lo : Nat) (ρ : List AVal) (H : Heap) (o : Oper) : Option (AVal × Heap) :=
 match quietA S ρ H o.op with
 | some v => some (v,H)
 | none =>
  match newA S ρ o.op with
  | some (blk,mk) => some (mk H.length,H ++ [some blk])
  | none => effA S call lo ρ H o.op
def opsA (S : AStat) (call : CallF) (lo : Nat) (ops : List Oper) : List Oper → List AVal → Heap → Option (List AVal × Heap)
 | [],ρ,H => some (ρ,H)
 | o :: rest,ρ,H =>
  match guardA ops ρ o with
  | none => none
  | some false => opsA S call lo ops rest (putA ρ o.dst undefA) H
  | some true =>
   match opA S call lo ρ H o with
   | none => none
   | some (v,H') => opsA S call lo ops rest (putA ρ o.dst v) H'
def isNewB : Op → Bool
 | .alloc _ | .box _ _ | .buildSlice _ _ _ | .makeSlice _ _ _ | .makeMap _ none | .range _ _ => true
 | _ => false
def isEffB : Op → Bool
 | .store _ _ _ | .mapUpdate _ _ _ _ | .insert _ _ _ _ | .next _ _ => true
 | .call { callee := .builtin .len,.. } | .call { callee := .builtin .min,.. } | .call { callee := .builtin .max,.. } => false
 | .call _ => true
 | _ => false
def blkOf : AVal → Option Nat
 | .ptr b _ => some b
 | .mapr b => some b
 | _ => none
def readsA (S : AStat) (ρ : List AVal) : Op → Option Nat
 | .load _ x => blkOf (evalA S ρ x)
 | .lookup _ m _ _ => blkOf (evalA S ρ m)
 | .slice _ x _ _ _ => blkOf (evalA S ρ x)
 | .convert _ _ x => slBlk (evalA S ρ x)
 | .call { callee := .builtin .len,args := args,.. } =>
  match args[0]? with
  | some x => match evalA S ρ x with
   | .mapr b => some b
   | _ => none
  | none => none
 | _ => none
def touchA (S : AStat) (ρ : List AVal) : Op → Option (List Nat)
 | .store _ x _ => some (blkOf (evalA S ρ x)).toList
 | .mapUpdate _ m _ _ => some (blkOf (evalA S ρ m)).toList
 | .insert _ m _ _ => some (blkOf (evalA S ρ m)).toList
 | .next x _ => some (blkOf (evalA S ρ x)).toList
 | .call { callee := .builtin .append,args := args,.. } =>
  match args[0]? with
  | some x => match evalA S ρ x with
   | .sl _ b _ _ _ _ => some [b]
   | _ => some []
  | none => none
 | .call { callee := .value f,.. } =>
  match evalA S ρ f with
  | .fn (.func g) _ _ => if stillB S g then some [] else none
  | _ => none
 | _ => none
def samePs : List AVal → List AVal → Bool
 | [],[] => true
 | .ptr b o :: as,.ptr b' o' :: bs => Nat.beq b b' && Nat.beq o o' && samePs as bs
 | .int k n :: as,.int k' n' :: bs => decide (k = k') && decide (n = n') && samePs as bs
 | .sl s b o l c e :: as,.sl s' b' o' l' c' e' :: bs => Nat.beq s s' && Nat.beq b b' && Nat.beq o o' && Nat.beq l l' && Nat.beq c c' && (e == e') && samePs as bs
 | .nils :: as,.nils :: bs => samePs as bs
 | _,_ => false
def sameB : Option (Option ABlk) → Option (Option ABlk) → Bool
 | some (some (.cells as)),some (some (.cells bs)) => samePs as bs
 | _,_ => false
def chgA (n : Nat) (g g' : Nat → Option (Option ABlk)) : List Nat := (List.range n).filter fun b => !sameB (g b) (g' b)
def touchD (S : AStat) (ρ : List AVal) (op : Op) (H H' : Heap) : Option (List Nat) := match touchA S ρ op with
 | some l => some l
 | none => some (chgA H.length (fun b => H[b]?) (fun b => H'[b]?))
def befs : List Oper → List Nat → List Nat
 | [],acc => acc
 | o :: os,acc => befs os (acc ++ [o.after.toList.foldl (fun s e => if Region.binds .any e then s ||| 2 ^ e.on ||| acc.getD e.on 0 else s) 0])
def pairOk (ops : Array Oper) (B : List Nat) (i j : Nat) : Bool :=
 (B.getD j 0).testBit i ||
 match ops[i]?,ops[j]? with
 | some x,some y => Oper.apart ops x y && !(isEffB x.op && isEffB y.op)
 | _,_ => true
def regionOk (ops : Array Oper) (B : List Nat) : Bool :=
 ((List.range ops.size).all fun j => (match ops[j]? with | some o => o.after.toList.all fun e => !Region.binds .any e || decide (e.on < j) | none => true) &&
   (List.range j).all fun i => pairOk ops B i j)
def hidden (ops : Array Oper) (B : List Nat) (n0 k : Nat) : List Nat :=
 ((List.range ops.size).filter fun j => (match ops[j]? with | some o => isNewB o.op | none => false) && !(B.getD k 0).testBit j).map (n0 + ·)
def hide (H : Heap) : List Nat → Heap
 | [] => H
 | b :: bs => hide (H.set b none) bs
def unhide (H0 H : Heap) : List Nat → Heap
 | [] => H
 | b :: bs => unhide H0 (H.set b (H0.getD b none)) bs
structure DrawOut where
 reads : List (Nat × Nat)
 touches : List (Nat × Option (List Nat))
 ρ : List AVal
 H : Heap
def drawGo (S : AStat) (call : CallF) (lo n0 : Nat) (ops : Array Oper) (B : List Nat) : List Oper → Nat → List AVal → Heap → Option DrawOut
 | [],_,ρ,H => some ⟨[],[],ρ,H⟩
 | o :: rest,k,ρ,H =>
  match guardA ops.toList ρ o with
  | none => none
  | some false => drawGo S call lo n0 ops B rest (k + 1) (putA ρ o.dst undefA) H
  | some true =>
   if isNewB o.op then
    match newA S ρ o.op with
    | none => none
    | some (blk,mk) =>
     match H[n0 + k]? with
     | some none => drawGo S call lo n0 ops B rest (k + 1) (putA ρ o.dst (mk (n0 + k))) (H.set (n0 + k) (some blk))
     | _ => none
   else if isEffB o.op then
    match effA S call lo ρ (hide H (hidden ops B n0 k)) o.op with
    | none => none
    | some (v,H') =>
     if H.length ≤ H'.length then
      match drawGo S call lo n0 ops B rest (k + 1) (putA ρ o.dst v) (unhide H H' (hidden ops B n0 k)) with
      | none => none
      | some r => some { r with touches := (k,touchD S ρ o.op (hide H (hidden ops B n0 k)) H') :: r.touches }
     else none
   else
    match quietA S ρ H o.op with
    | none => none
    | some v =>
     match drawGo S call lo n0 ops B rest (k + 1) (putA ρ o.dst v) H with
     | none => none
     | some r =>
      match readsA S ρ o.op with
      | none => some r
      | some b => some { r with reads := (k,b) :: r.reads }
def apartB (B : List Nat) (reads : List (Nat × Nat)) (touches : List (Nat × Option (List Nat))) : Bool :=
 reads.all fun r => touches.all fun t => (B.getD r.1 0).testBit t.1 || (B.getD t.1 0).testBit r.1 ||
  match t.2 with
  | some l => !l.contains r.2
  | none => false
def drawA (S : AStat) (call : CallF) (lo : Nat) (ops : Array Oper) (ρ : List AVal) (H : Heap) : Option (List AVal × Heap) :=
 let B := befs ops.toList []
 if regionOk ops B && decide (lo ≤ H.length) then
  match drawGo S call lo H.length ops B ops.toList 0 ρ (if ops.any (fun o => isNewB o.op) then H ++ List.replicate ops.size none else H) with
  | none => none
  | some r => if apartB B r.reads r.touches then some (r.ρ,r.H) else none
 else none
def frzs (f : AVal → Option AVal) : List AVal → Option (List AVal)
 | [] => some []
 | a :: as => match f a with
  | none => none
  | some b => match frzs f as with
   | none => none
   | some bs => some (b :: bs)
def frzss (f : AVal → Option AVal) : List (List AVal) → Option (List (List AVal))
 | [] => some []
 | a :: as => match frzs f a with
  | none => none
  | some b => match frzss f as with
   | none => none
   | some bs => some (b :: bs)
def frz (n0 : Nat) (H : Heap) : Bool → Nat → AVal → Option AVal
 | _,0,_ => none
 | top,k + 1,a =>
  match a with
  | .agg cs => (frzs (frz n0 H top k) cs).map .agg
  | .tup cs => (frzs (frz n0 H top k) cs).map .tup
  | .iface t v => (frz n0 H top k v).map (.iface t)
  | .fn f x y => match frzs (frz n0 H top k) x,frzs (frz n0 H top k) y with
   | some x',some y' => some (.fn f x' y')
   | _,_ => none
  | .ptr b off =>
   if b < n0 then (if top then some (.ptr b off) else none) else
   match H[b]? with
   | some (some (.cells cs)) => (frzs (frz n0 H false k) (cs.drop off)).map .ipt
   | _ => none
  | .sl sz b off len cap ex =>
   if b < n0 then (if top then some (.sl sz b off len cap ex) else none) else
   match H[b]? with
   | some (some (.cells cs)) =>
    if off + len * sz ≤ cs.length then (frzss (frz n0 H false k) (chunk sz len (cs.drop off))).map fun rows => .list sz rows (ex && cap == len) else none
   | _ => none
  | .mapr b => if b < n0 ∧ top then some (.mapr b) else none
  | a => some a
def resultA (S : AStat) (ρ : List AVal) (H : Heap) : ResultVar → Option AVal
 | .tmp t => some (ρ.getD t undefA)
 | .cell a t => loadA S.P t H (ρ.getD a undefA)
def resultsA (S : AStat) (ρ : List AVal) (H : Heap) : List ResultVar → Option (List AVal)
 | [] => some []
 | r :: rs =>
  match resultA S ρ H r with
  | none => none
  | some v => match resultsA S ρ H rs with
   | none => none
   | some vs => some (v :: vs)
def tupled : List AVal → AVal
 | [v] => v
 | vs => .tup vs
def finish (p : Pol) (H0 : Heap) (v : AVal) (H : Heap) : Option (AVal × Heap) :=
 match p with
 | .keep => some (v,H)
 | .pure => (frz H0.length H true 64 v).map fun v' => (v',H0)
 | .fresh => some (v,H)
def Pol.lo (p : Pol) (lo : Nat) (H : Heap) : Nat :=
 match p with
 | .keep => lo
 | .pure => H.length
 | .fresh => max lo H.length
abbrev ExecF := Nat → Code → List AVal → Heap → Option (AExit × List AVal × Heap)
def callA (S : AStat) (rec : ExecF) : CallF := fun lo f args H =>
 match S.hook f with
 | some hk => hk lo args H
 | none =>
  match S.P.funcs[f]? with
  | none => none
  | some fn =>
   match fn.body with
   | none => none
   | some body =>
    match rec ((S.pol f).lo lo H) body (args ++ List.replicate (fn.ntmps - args.length) undefA) H with
    | none => none
    | some (.exit _,_,_) => none
    | some (_,ρ,H') =>
     match resultsA S ρ H' fn.results.toList with
     | none => none
     | some vs => finish (S.pol f) H (tupled vs) H'
def stepA (S : AStat) (rec : ExecF) : ExecF := fun lo c ρ H =>
 match c with
 | .skip => some (.normal,ρ,H)
 | .label _ => some (.normal,ρ,H)
 | .ret => some (.ret,ρ,H)
 | .exit id => some (.exit id,ρ,H)
 | .seq a b =>
  match rec lo a ρ H with
  | some (.normal,ρ',H') => rec lo b ρ' H'
  | r => r
 | .cond x a b =>
  match evalA S ρ x with
  | .bool true => rec lo a ρ H
  | .bool false => rec lo b ρ H
  | _ => none
 | .block id b =>
  match rec lo b ρ H with
  | some (.exit i,ρ',H') => if i = id then some (.normal,ρ',H') else some (.exit i,ρ',H')
  | r => r
 | .loop b =>
  match rec lo b ρ H with
  | some (.normal,ρ',H') => rec lo (.loop b) ρ' H'
  | r => r
 | .region _ ops draw =>
  if draw then (drawA S (callA S rec) lo ops ρ H).map fun r => (.normal,r.1,r.2)
  else (opsA S (callA S rec) lo ops.toList ops.toList ρ H).map fun r => (.normal,r.1,r.2)
 | _ => none
def execA (S : AStat) : Nat → ExecF
 | 0 => fun _ _ _ _ => none
 | n + 1 => stepA S (execA S n)
def runA (S : AStat) (n : Nat) : CallF := callA S (execA S n)
end Go.Am
