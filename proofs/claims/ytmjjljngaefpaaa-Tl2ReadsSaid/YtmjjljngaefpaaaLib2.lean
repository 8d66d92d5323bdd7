/- Library, part 2: AmDraw, AmDraw2, AmDraw3, AmDraw4, AmDraw5, AmRun, AmTop, AmMono, AmTree, AmLift, AmTy, SyVal, SyOp, SySim, SySim2. General texts of the author of this claim: an idealised machine and a symbolic one, both proved sound over the model. -/
import Derived.Orders
import Derived.ProofKit
import Derived.OpenShut
import Derived.Test.YtmjjljngaefpaaaLib1
set_option linter.unusedVariables false
set_option linter.unusedSimpArgs false
/- That a region whose order is open keeps to the idealised one, in whatever order. Generic: over any program. -/
namespace Go.Am
open Go.RowKit
def newAt (ops : Array Oper) (i : Nat) : Bool := match ops[i]? with | some o => isNewB o.op | none => false
def effAt (ops : Array Oper) (i : Nat) : Bool := match ops[i]? with | some o => isEffB o.op | none => false
def dstAt (ops : Array Oper) (i : Nat) : Option Tmp := (ops[i]?).bind (·.dst)
theorem hide_get : ∀ (bs : List Nat) (H : Heap) (b : Nat),(hide H bs)[b]? = if b ∈ bs ∧ b < H.length then some none else H[b]?
 | [],H,b => by simp [hide]
 | x :: bs,H,b => by
  rw [hide,hide_get bs,List.length_set,List.getElem?_set]
  by_cases h1 : b ∈ bs <;> by_cases h2 : b < H.length <;> by_cases h3 : x = b <;> simp_all
  all_goals (intro e; exact absurd e.symm h3)
theorem hide_length : ∀ (bs : List Nat) (H : Heap),(hide H bs).length = H.length
 | [],H => rfl
 | x :: bs,H => by rw [hide,hide_length bs]; simp
theorem unhide_length : ∀ (bs : List Nat) (H0 H : Heap),(unhide H0 H bs).length = H.length
 | [],_,H => rfl
 | x :: bs,H0,H => by rw [unhide,unhide_length bs]; simp
theorem unhide_get : ∀ (bs : List Nat) (H0 H : Heap) (b : Nat),(unhide H0 H bs)[b]? = if b ∈ bs ∧ b < H.length then some (H0.getD b none) else H[b]?
 | [],_,H,b => by simp [unhide]
 | x :: bs,H0,H,b => by
  rw [unhide,unhide_get bs,List.length_set,List.getElem?_set]
  by_cases h1 : b ∈ bs <;> by_cases h2 : b < H.length <;> by_cases h3 : x = b <;> simp_all
  all_goals (intro e; exact absurd e.symm h3)
theorem mem_hidden {ops : Array Oper} {B : List Nat} {n0 k b : Nat} : b ∈ hidden ops B n0 k ↔ ∃ j,j < ops.size ∧ newAt ops j = true ∧ (B.getD k 0).testBit j = false ∧ b = n0 + j := by
 simp only [hidden,List.mem_map,List.mem_filter,List.mem_range,Bool.and_eq_true,Bool.not_eq_true']
 constructor
 ·rintro ⟨j,⟨h1,h2,h3⟩,rfl⟩
  exact ⟨j,h1,h2,h3,rfl⟩
 ·rintro ⟨j,h1,h2,h3,rfl⟩
  exact ⟨j,⟨h1,h2,h3⟩,rfl⟩
def Bits (ops : Array Oper) (B : List Nat) : Prop :=
 ∀ (D : Nat → Bool),(∀ i o,ops[i]? = some o → D i = true → ∀ e ∈ o.after.toList,Region.binds .any e = true → D e.on = true) →
  ∀ i k,i < ops.size → D i = true → (B.getD i 0).testBit k = true → D k = true
theorem fold_bits (acc : List Nat) (k : Nat) : ∀ (es : List Edge) (s : Nat),(es.foldl (fun s e => if Region.binds .any e then s ||| 2 ^ e.on ||| acc.getD e.on 0 else s) s).testBit k = true →
 s.testBit k = true ∨ ∃ e ∈ es,Region.binds .any e = true ∧ (k = e.on ∨ (acc.getD e.on 0).testBit k = true)
 | [],s,h => .inl h
 | e :: es,s,h => by
  rw [List.foldl_cons] at h
  rcases fold_bits acc k es _ h with h1 | ⟨e',he,h2⟩
  ·split at h1
   ·rename_i hb
    simp only [Nat.testBit_or,Bool.or_eq_true,Nat.testBit_two_pow,decide_eq_true_eq] at h1
    rcases h1 with (h1 | h1) | h1
    ·exact .inl h1
    ·exact .inr ⟨e,List.mem_cons_self ..,hb,.inl h1.symm⟩
    ·exact .inr ⟨e,List.mem_cons_self ..,hb,.inr h1⟩
   ·exact .inl h1
  ·exact .inr ⟨e',List.mem_cons_of_mem _ he,h2⟩
theorem befs_bits {ops : Array Oper} (D : Nat → Bool) (hD : ∀ i o,ops[i]? = some o → D i = true → ∀ e ∈ o.after.toList,Region.binds .any e = true → D e.on = true) :
 ∀ (l : List Oper) (acc : List Nat),(∀ j,l[j]? = ops[acc.length + j]?) → (∀ i k,i < acc.length → D i = true → (acc.getD i 0).testBit k = true → D k = true) →
  ∀ i k,D i = true → ((befs l acc).getD i 0).testBit k = true → D k = true
 | [],acc,_,ha,i,k,hi,hk => by
  simp only [befs] at hk
  rcases Nat.lt_or_ge i acc.length with h | h
  ·exact ha i k h hi hk
  ·rw [List.getD_eq_getElem?_getD,List.getElem?_eq_none h] at hk
   simp at hk
 | o :: l,acc,hl,ha,i,k,hi,hk => by
  simp only [befs] at hk
  refine befs_bits D hD l _ (fun j => ?_) ?_ i k hi hk
  ·have := hl (j + 1)
   simp only [List.getElem?_cons_succ] at this
   rw [this]
   congr 1
   simp
   omega
  ·intro i k hlt hDi hbit
   rcases Nat.lt_or_ge i acc.length with h | h
   ·rw [List.getD_eq_getElem?_getD,List.getElem?_append_left h,← List.getD_eq_getElem?_getD] at hbit
    exact ha i k h hDi hbit
   ·have hie : i = acc.length := by simp at hlt; omega
    subst hie
    rw [List.getD_eq_getElem?_getD,List.getElem?_append_right (Nat.le_refl _)] at hbit
    simp only [Nat.sub_self,List.getElem?_cons_zero,Option.getD_some] at hbit
    have ho : ops[acc.length]? = some o := by have := hl 0; simpa using this.symm
    rcases fold_bits acc k _ _ hbit with h1 | ⟨e,he,hb,h2⟩
    ·simp at h1
    ·have hDe := hD _ o ho hDi e he hb
     rcases h2 with rfl | h2
     ·exact hDe
     ·rcases Nat.lt_or_ge e.on acc.length with h3 | h3
      ·exact ha _ _ h3 hDe h2
      ·rw [List.getD_eq_getElem?_getD,List.getElem?_eq_none h3] at h2
       simp at h2
theorem befs_ok (ops : Array Oper) : Bits ops (befs ops.toList []) := by
 intro D hD i k _ hi hk
 exact befs_bits D hD ops.toList [] (fun j => by simp) (fun i k h => by simp at h) i k hi hk
theorem befs_lt {ops : Array Oper} (he : ∀ j o,ops[j]? = some o → ∀ e ∈ o.after.toList,Region.binds .any e = true → e.on < j) : ∀ (l : List Oper) (acc : List Nat),(∀ j,l[j]? = ops[acc.length + j]?) →
 (∀ i k,i < acc.length → (acc.getD i 0).testBit k = true → k < i) → ∀ i k,((befs l acc).getD i 0).testBit k = true → k < i
 | [],acc,_,ha,i,k,hk => by
  simp only [befs] at hk
  rcases Nat.lt_or_ge i acc.length with h | h
  ·exact ha i k h hk
  ·rw [List.getD_eq_getElem?_getD,List.getElem?_eq_none h] at hk
   simp at hk
 | o :: l,acc,hl,ha,i,k,hk => by
  simp only [befs] at hk
  refine befs_lt he l _ (fun j => ?_) ?_ i k hk
  ·have := hl (j + 1)
   simp only [List.getElem?_cons_succ] at this
   rw [this]
   congr 1
   simp
   omega
  ·intro i k hlt hbit
   rcases Nat.lt_or_ge i acc.length with h | h
   ·rw [List.getD_eq_getElem?_getD,List.getElem?_append_left h,← List.getD_eq_getElem?_getD] at hbit
    exact ha i k h hbit
   ·have hie : i = acc.length := by simp at hlt; omega
    subst hie
    rw [List.getD_eq_getElem?_getD,List.getElem?_append_right (Nat.le_refl _)] at hbit
    simp only [Nat.sub_self,List.getElem?_cons_zero,Option.getD_some] at hbit
    have ho : ops[acc.length]? = some o := by have := hl 0; simpa using this.symm
    rcases fold_bits acc k _ _ hbit with h1 | ⟨e,hm,hb,h2⟩
    ·simp at h1
    ·have hlt := he _ o ho e hm hb
     rcases h2 with rfl | h2
     ·exact hlt
     ·have := ha _ _ hlt h2
      omega
structure PairOk (ops : Array Oper) (B : List Nat) : Prop where
 edge : ∀ j o,ops[j]? = some o → ∀ e ∈ o.after.toList,Region.binds .any e = true → e.on < j
 pair : ∀ i j x y,i < j → ops[i]? = some x → ops[j]? = some y → (B.getD j 0).testBit i = true ∨ (Oper.apart ops x y = true ∧ ¬ (isEffB x.op = true ∧ isEffB y.op = true))
theorem regionOk_spec {ops : Array Oper} {B : List Nat} (h : regionOk ops B = true) : PairOk ops B := by
 unfold regionOk at h
 rw [List.all_eq_true] at h
 have lt : ∀ j o,ops[j]? = some o → j < ops.size := by
  intro j o ho
  exact (Array.getElem?_eq_some_iff.1 ho).1
 constructor
 ·intro j o ho e he hb
  have := h j (List.mem_range.2 (lt j o ho))
  simp only [ho,Bool.and_eq_true,List.all_eq_true,Bool.or_eq_true,Bool.not_eq_true',decide_eq_true_eq] at this
  rcases this.1 e he with h1 | h1
  ·rw [hb] at h1; cases h1
  ·exact h1
 ·intro i j x y hij hx hy
  have := h j (List.mem_range.2 (lt j y hy))
  simp only [Bool.and_eq_true,List.all_eq_true] at this
  have := this.2 i (List.mem_range.2 hij)
  unfold pairOk at this
  rw [hx,hy] at this
  simp only [Bool.or_eq_true,Bool.and_eq_true,Bool.not_eq_true',Bool.and_eq_false_iff] at this
  rcases this with h1 | ⟨h1,h2⟩
  ·exact .inl h1
  ·refine .inr ⟨h1,fun ⟨h3,h4⟩ => ?_⟩
   rcases h2 with h2 | h2
   ·rw [h3] at h2; cases h2
   ·rw [h4] at h2; cases h2
inductive DStep (S : AStat) (call : CallF) (lo n0 : Nat) (ops : Array Oper) (B : List Nat) (reads : List (Nat × Nat)) (touches : List (Nat × Option (List Nat))) (k : Nat) (o : Oper) (ρ : List AVal) (H : Heap) (ρ' : List AVal) (H' : Heap) : Prop where
 | skip (hg : guardA ops.toList ρ o = some false) (hρ : ρ' = putA ρ o.dst undefA) (hH : H' = H)
 | new (hg : guardA ops.toList ρ o = some true) (hn : isNewB o.op = true) (blk : ABlk) (mk : Nat → AVal) (h : newA S ρ o.op = some (blk,mk)) (hd : H[n0 + k]? = some none)
  (hρ : ρ' = putA ρ o.dst (mk (n0 + k))) (hH : H' = H.set (n0 + k) (some blk))
 | eff (hg : guardA ops.toList ρ o = some true) (hn : isNewB o.op = false) (he : isEffB o.op = true) (v : AVal) (H1 : Heap) (h : effA S call lo ρ (hide H (hidden ops B n0 k)) o.op = some (v,H1)) (hl : H.length ≤ H1.length)
  (hρ : ρ' = putA ρ o.dst v) (hH : H' = unhide H H1 (hidden ops B n0 k)) (ht : (k,touchD S ρ o.op (hide H (hidden ops B n0 k)) H1) ∈ touches)
 | quiet (hg : guardA ops.toList ρ o = some true) (hn : isNewB o.op = false) (he : isEffB o.op = false) (v : AVal) (h : quietA S ρ H o.op = some v) (hρ : ρ' = putA ρ o.dst v) (hH : H' = H)
  (hr : ∀ b,readsA S ρ o.op = some b → (k,b) ∈ reads)
theorem DStep.more {S : AStat} {call : CallF} {lo n0 : Nat} {ops : Array Oper} {B : List Nat} {reads reads' : List (Nat × Nat)} {touches touches' : List (Nat × Option (List Nat))} {k : Nat} {o : Oper} {ρ ρ' : List AVal} {H H' : Heap}
 (hr : ∀ x ∈ reads,x ∈ reads') (ht : ∀ x ∈ touches,x ∈ touches') (h : DStep S call lo n0 ops B reads touches k o ρ H ρ' H') : DStep S call lo n0 ops B reads' touches' k o ρ H ρ' H' := by
 cases h with
 | skip a b c => exact .skip a b c
 | new a b c d e f g h => exact .new a b c d e f g h
 | eff a b c d e f l g h i => exact .eff a b c d e f l g h (ht _ i)
 | quiet a b c d e f g h => exact .quiet a b c d e f g fun x hx => hr _ (h x hx)
theorem drawGo_trace {S : AStat} {call : CallF} {lo n0 : Nat} {ops : Array Oper} {B : List Nat} : ∀ (l : List Oper) (k : Nat) (ρ : List AVal) (H : Heap) (r : DrawOut),drawGo S call lo n0 ops B l k ρ H = some r →
 (∀ j,l[j]? = ops[k + j]?) → k + l.length = ops.size →
 ∃ (ρs : Nat → List AVal) (Hs : Nat → Heap),ρs k = ρ ∧ Hs k = H ∧ ρs ops.size = r.ρ ∧ Hs ops.size = r.H ∧
  ∀ j o,k ≤ j → ops[j]? = some o → DStep S call lo n0 ops B r.reads r.touches j o (ρs j) (Hs j) (ρs (j + 1)) (Hs (j + 1))
 | [],k,ρ,H,r,h,hl,hs => by
  simp only [drawGo,Option.some.injEq] at h
  subst h
  simp only [List.length_nil,Nat.add_zero] at hs
  subst hs
  refine ⟨fun _ => ρ,fun _ => H,rfl,rfl,rfl,rfl,fun j o hj ho => ?_⟩
  have := (Array.getElem?_eq_some_iff.1 ho).1
  omega
 | o :: l,k,ρ,H,r,h,hl,hs => by
  have ho : ops[k]? = some o := by have := hl 0; simpa using this.symm
  have hl' : ∀ j,l[j]? = ops[k + 1 + j]? := fun j => by have := hl (j + 1); simp only [List.getElem?_cons_succ] at this; rw [this]; congr 1; omega
  have hs' : k + 1 + l.length = ops.size := by simp at hs; omega
  have build : ∀ (ρ1 : List AVal) (H1 : Heap) (r1 : DrawOut),drawGo S call lo n0 ops B l (k + 1) ρ1 H1 = some r1 → r1.ρ = r.ρ → r1.H = r.H → (∀ x ∈ r1.reads,x ∈ r.reads) → (∀ x ∈ r1.touches,x ∈ r.touches) →
   DStep S call lo n0 ops B r.reads r.touches k o ρ H ρ1 H1 →
   ∃ (ρs : Nat → List AVal) (Hs : Nat → Heap),ρs k = ρ ∧ Hs k = H ∧ ρs ops.size = r.ρ ∧ Hs ops.size = r.H ∧
    ∀ j o,k ≤ j → ops[j]? = some o → DStep S call lo n0 ops B r.reads r.touches j o (ρs j) (Hs j) (ρs (j + 1)) (Hs (j + 1)) := by
   intro ρ1 H1 r1 hgo e1 e2 hr ht hd
   obtain ⟨ρs,Hs,g1,g2,g3,g4,g5⟩ := drawGo_trace l (k + 1) ρ1 H1 r1 hgo hl' hs'
   have hk : k < ops.size := (Array.getElem?_eq_some_iff.1 ho).1
   refine ⟨fun j => if j = k then ρ else ρs j,fun j => if j = k then H else Hs j,by simp,by simp, ?_, ?_, ?_⟩
   ·simp only
    rw [if_neg (by omega),g3,e1]
   ·simp only
    rw [if_neg (by omega),g4,e2]
   ·intro j o' hj ho'
    by_cases hjk : j = k
    ·subst hjk
     rw [ho] at ho'
     cases ho'
     simp only [if_true]
     rw [if_neg (by omega),if_neg (by omega),g1,g2]
     exact hd
    ·simp only
     rw [if_neg hjk,if_neg hjk,if_neg (by omega),if_neg (by omega)]
     exact (g5 j o' (by omega) ho').more hr ht
  simp only [drawGo] at h
  split at h
  ·cases h
  ·rename_i hg
   exact build _ _ r h rfl rfl (fun _ h => h) (fun _ h => h) (.skip hg rfl rfl)
  ·rename_i hg
   split at h
   ·rename_i hn
    split at h
    ·cases h
    ·rename_i blk mk hnew
     split at h
     ·rename_i hd
      exact build _ _ r h rfl rfl (fun _ h => h) (fun _ h => h) (.new hg hn blk mk hnew hd rfl rfl)
     ·cases h
   ·rename_i hn
    simp only [Bool.not_eq_true] at hn
    split at h
    ·rename_i he
     split at h
     ·cases h
     ·rename_i v H1 heff
      split at h
      ·rename_i hlen
       split at h
       ·cases h
       ·rename_i r1 hgo
        simp only [Option.some.injEq] at h
        subst h
        exact build _ _ r1 hgo rfl rfl (fun _ h => h) (fun _ h => List.mem_cons_of_mem _ h) (.eff hg hn he v H1 heff hlen rfl rfl (List.mem_cons_self ..))
      ·cases h
    ·rename_i he
     simp only [Bool.not_eq_true] at he
     split at h
     ·cases h
     ·rename_i v hq
      split at h
      ·cases h
      ·rename_i r1 hgo
       split at h
       ·rename_i hrd
        simp only [Option.some.injEq] at h
        subst h
        exact build _ _ r1 hgo rfl rfl (fun _ h => h) (fun _ h => h) (.quiet hg hn he v hq rfl rfl (fun b hb => by rw [hrd] at hb; cases hb))
       ·rename_i b hrd
        simp only [Option.some.injEq] at h
        subst h
        refine build _ _ r1 hgo rfl rfl (fun _ h => List.mem_cons_of_mem _ h) (fun _ h => h) (.quiet hg hn he v hq rfl rfl (fun b' hb => ?_))
        rw [hrd] at hb
        cases hb
        exact List.mem_cons_self ..
def CallStill (S : AStat) (call : CallF) : Prop := ∀ lo g args H r H',(S.hook g).isNone = true → S.pol g = .pure ∨ S.pol g = .fresh → call lo g args H = some (r,H') → H.length ≤ H'.length ∧ ∀ b,b < H.length → H'[b]? = H[b]?
theorem callA_still (S : AStat) {rec : ExecF} (hL : RecLow rec) : CallStill S (callA S rec) := by
 intro lo g args H r H' hh hp h
 rcases hp with hp | hp
 ·unfold callA at h
  split at h
  ·rename_i hk hhk
   rw [hhk] at hh
   cases hh
  ·split at h
   ·cases h
   ·split at h
    ·cases h
    ·split at h
     ·cases h
     ·cases h
     ·split at h
      ·cases h
      ·rw [hp] at h
       simp only [finish] at h
       rw [Option.map_eq_some_iff] at h
       obtain ⟨_,_,h2⟩ := h
       simp only [Prod.mk.injEq] at h2
       rw [← h2.2]
       exact ⟨Nat.le_refl _,fun _ _ => rfl⟩
 ·exact callA_fresh hL hh hp h
set_option maxHeartbeats 1000000 in
theorem eff_keeps {S : AStat} {call : CallF} (hC : CallStill S call) {lo : Nat} {ρ : List AVal} {H H1 : Heap} {op : Op} {v : AVal} {l : List Nat} (h : effA S call lo ρ H op = some (v,H1)) (ht : touchA S ρ op = some l) :
 H.length ≤ H1.length ∧ ∀ b,b < H.length → b ∉ l → H1[b]? = H[b]? := by
 have setk : ∀ (H : Heap) (x b : Nat) (y : Option ABlk),b ≠ x → (H.set x y)[b]? = H[b]? := fun H x b y hb => by rw [List.getElem?_set,if_neg (fun e => hb e.symm)]
 have upd : ∀ {t : TypeId} {m k y : AVal} {H1 : Heap},mapUpdateA S.P lo t H m k y = some H1 → (blkOf m).toList = l → H.length ≤ H1.length ∧ ∀ b,b < H.length → b ∉ l → H1[b]? = H[b]? := by
  intro t m k y H1 h hl
  unfold mapUpdateA at h
  (repeat' split at h) <;> first
   | (cases h; done)
   | (simp only [Option.some.injEq] at h
      subst h
      simp only [blkOf,Option.toList_some] at hl
      subst hl
      exact ⟨by simp,fun b _ hb => setk _ _ _ _ (by simpa using hb)⟩)
 unfold effA at h
 split at h
 ·rename_i t x y
  rw [Option.map_eq_some_iff] at h
  obtain ⟨H2,h1,h2⟩ := h
  simp only [Prod.mk.injEq] at h2
  obtain ⟨rfl,rfl⟩ := h2
  simp only [touchA,Option.some.injEq] at ht
  unfold storeA at h1
  split at h1
  ·rename_i b off e
   rw [e] at ht
   simp only [blkOf,Option.toList_some] at ht
   subst ht
   split at h1
   ·split at h1
    ·simp only [Option.some.injEq] at h1
     subst h1
     exact ⟨by simp,fun b _ hb => setk _ _ _ _ (by simpa using hb)⟩
    ·cases h1
   ·cases h1
  ·cases h1
 ·rw [Option.map_eq_some_iff] at h
  obtain ⟨H2,h1,h2⟩ := h
  simp only [Prod.mk.injEq] at h2
  obtain ⟨rfl,rfl⟩ := h2
  simp only [touchA,Option.some.injEq] at ht
  exact upd h1 ht
 ·rw [Option.map_eq_some_iff] at h
  obtain ⟨H2,h1,h2⟩ := h
  simp only [Prod.mk.injEq] at h2
  obtain ⟨rfl,rfl⟩ := h2
  simp only [touchA,Option.some.injEq] at ht
  exact upd h1 ht
 ·rename_i x isString
  simp only [touchA,Option.some.injEq] at ht
  generalize evalA S ρ x = a at h ht
  unfold nextA at h
  split at h <;> cases h
 ·cases ht
 ·rename_i args ts
  split at h
  ·rename_i s x t u e1 e2
   have h0 : ∃ o0,args[0]? = some o0 ∧ evalA S ρ o0 = s := by
    cases hargs : args.toList with
    | nil => rw [hargs] at e1; simp at e1
    | cons o0 rest =>
     rw [hargs] at e1
     simp only [List.map_cons,List.cons.injEq] at e1
     refine ⟨o0, ?_,e1.1⟩
     have : args.toList[0]? = some o0 := by rw [hargs]; rfl
     simpa using this
   obtain ⟨o0,h1,h2⟩ := h0
   simp only [touchA,h1,h2] at ht
   unfold appendA at h
   (repeat' split at h) <;> first
    | (cases h; done)
    | (simp only at h; cases h; done)
    | (simp only at h
       (repeat' split at h) <;> first
        | (cases h; done)
        | (simp only [Option.some.injEq,Prod.mk.injEq] at h
           obtain ⟨_,rfl⟩ := h
           first
            | exact ⟨Nat.le_refl _,fun b _ _ => rfl⟩
            | exact ⟨by simp,fun b hb _ => List.getElem?_append_left hb⟩
            | (simp only [Option.some.injEq] at ht
               subst ht
               exact ⟨by simp,fun b _ hb => setk _ _ _ _ (by simpa using hb)⟩)
            | (simp only [Option.some.injEq] at ht
               subst ht
               exact ⟨by simp,fun b hb hb2 => by rw [List.getElem?_append_left (by simpa using hb)]; exact setk _ _ _ _ (by simpa using hb2)⟩)))
  ·cases h
 ·rename_i f args ts
  split at h
  ·rename_i g first captured e
   simp only [touchA,e] at ht
   split at ht
   ·rename_i hg
    simp only [Bool.and_eq_true,Bool.or_eq_true,beq_iff_eq] at hg
    split at h
    ·simp only [Option.some.injEq,Prod.mk.injEq] at h
     obtain ⟨_,rfl⟩ := h
     exact ⟨Nat.le_refl _,fun _ _ _ => rfl⟩
    ·have := hC _ _ _ _ _ _ hg.1 hg.2 h
     exact ⟨this.1,fun b hb _ => this.2 b hb⟩
   ·cases ht
  ·cases h
 ·simp only [touchA] at ht
  cases ht
 ·cases h
theorem samePs_ok : ∀ {as bs : List AVal},samePs as bs = true → as = bs
 | [],[],_ => rfl
 | [],_ :: _,h => by simp [samePs] at h
 | a :: as,[],h => by cases a <;> simp [samePs] at h
 | a :: as,b :: bs,h => by
  cases a <;> cases b <;> simp only [samePs] at h <;> try cases h
  ·simp only [Bool.and_eq_true,decide_eq_true_eq] at h
   obtain ⟨⟨rfl,rfl⟩,h⟩ := h
   rw [samePs_ok h]
  ·simp only [Bool.and_eq_true,Nat.beq_eq] at h
   obtain ⟨⟨rfl,rfl⟩,h⟩ := h
   rw [samePs_ok h]
theorem sameB_ok {x y : Option (Option ABlk)} (h : sameB x y = true) : x = y := by
 unfold sameB at h
 split at h
 ·rw [samePs_ok h]
 ·cases h
theorem touchD_keeps {S : AStat} {call : CallF} (hC : CallStill S call) {lo : Nat} {ρ : List AVal} {H H1 : Heap} {op : Op} {v : AVal} {l : List Nat} (h : effA S call lo ρ H op = some (v,H1)) (hl : H.length ≤ H1.length) (ht : touchD S ρ op H H1 = some l) :
 H.length ≤ H1.length ∧ ∀ b,b < H.length → b ∉ l → H1[b]? = H[b]? := by
 unfold touchD at ht
 split at ht
 ·rename_i l' e
  cases ht
  exact eff_keeps hC h e
 ·cases ht
  refine ⟨hl,fun b hb hn => ?_⟩
  have : sameB H[b]? H1[b]? = true := by
   cases hs : sameB H[b]? H1[b]? with
   | true => rfl
   | false => exact (hn (List.mem_filter.2 ⟨List.mem_range.2 hb,by simp only [hs]; rfl⟩)).elim
  exact (sameB_ok this).symm
theorem quiet_local {S : AStat} {ρ : List AVal} {H H' : Heap} {op : Op} (h : ∀ b,readsA S ρ op = some b → H'[b]? = H[b]?) : quietA S ρ H' op = quietA S ρ H op := by
 have hat : ∀ x,(∀ b,blkOf x = some b → H'[b]? = H[b]?) → atA H' x = atA H x := by
  intro x hx
  cases x <;> simp only [atA]
  rw [hx _ rfl]
 unfold quietA
 split <;> try rfl
 ·rename_i t x
  simp only [loadA]
  rw [hat _ h]
 ·rename_i s d x
  have hx : ∀ sz b off len cap ex,evalA S ρ x = .sl sz b off len cap ex → H'[b]? = H[b]? := fun sz b off len cap ex e => h b (by simp only [readsA,e,slBlk])
  unfold convHA
  split
  ·rfl
  ·unfold strOfA
   split <;> try rfl
   split <;> try rfl
   rename_i sz b off len cap ex _ e
   rw [hx _ b _ _ _ _ e]
 ·rename_i t x lo hi mx
  have hx : ∀ b off,evalA S ρ x = .ptr b off → H'[b]? = H[b]? := fun b off e => h b (by simp only [readsA,e,blkOf])
  unfold sliceA
  split <;> try rfl
  split <;> try rfl
  split <;> try rfl
  rename_i b off e
  rw [hx b off e]
 ·rename_i args ts
  split <;> try rfl
  rename_i t x ht hx
  have hx' : ∀ b,evalA S ρ x = .mapr b → H'[b]? = H[b]? := fun b e => h b (by simp only [readsA,hx,e])
  unfold lenA
  split <;> try rfl
  rename_i b e2 e
  rw [hx' b e]
theorem slice_dead {P : Program} {t : TypeId} {H : Heap} {b off : Nat} {lo hi mx : Option AVal} (hd : ∀ blk,H[b]? ≠ some (some blk)) : sliceA P t H (.ptr b off) lo hi mx = none := by
 unfold sliceA
 split
 ·split <;> first | contradiction | rfl
 ·split
  ·split <;> first | contradiction | rfl
  ·rfl
 ·split
  ·cases hh : H[b]? with
   | none => simp [hh]
   | some o => cases o with
    | none => simp [hh]
    | some blk => exact absurd hh (hd blk)
  ·rfl
 ·rfl
theorem slice_map {P : Program} {t : TypeId} {H : Heap} {b : Nat} {lo hi mx : Option AVal} : sliceA P t H (.mapr b) lo hi mx = none := by
 unfold sliceA
 split
 ·split <;> first | contradiction | rfl
 ·split
  ·split <;> first | contradiction | rfl
  ·rfl
 ·split
  ·split <;> first | contradiction | rfl
  ·rfl
 ·rfl
theorem lookup_dead {P : Program} {t : TypeId} {H : Heap} {b : Nat} {x : AVal} {ok : Bool} (hd : ∀ blk,H[b]? ≠ some (some blk)) : lookupA P t H (.mapr b) x ok = none := by unfold lookupA; split <;> rfl
theorem lookup_ptr {P : Program} {t : TypeId} {H : Heap} {b off : Nat} {x : AVal} {ok : Bool} : lookupA P t H (.ptr b off) x ok = none := by unfold lookupA; split <;> rfl
theorem len_dead {P : Program} {t : TypeId} {H : Heap} {b : Nat} (hd : ∀ blk,H[b]? ≠ some (some blk)) : lenA P t H (.mapr b) = none := by
 unfold lenA
 split <;> first
  | contradiction
  | rfl
  | (rename_i hne _; exact absurd rfl (hne _))
  | skip
 all_goals (cases hh : H[b]? with
  | none => simp_all
  | some o => cases o with
   | none => simp_all
   | some blk => exact absurd hh (hd blk))
theorem quiet_live {S : AStat} {ρ : List AVal} {H : Heap} {op : Op} {v : AVal} {b : Nat} (h : quietA S ρ H op = some v) (hb : readsA S ρ op = some b) : ∃ blk,H[b]? = some (some blk) := by
 have ptr : ∀ x,blkOf x = some b → (∃ off,x = .ptr b off) ∨ x = .mapr b := by
  intro x hx
  cases x <;> simp only [blkOf,Option.some.injEq] at hx <;> first | (cases hx; done) | (subst hx; first | exact .inl ⟨_,rfl⟩ | exact .inr rfl)
 by_cases hd : ∃ blk,H[b]? = some (some blk)
 ·exact hd
 ·exfalso
  have hd' : ∀ blk,H[b]? ≠ some (some blk) := fun blk e => hd ⟨blk,e⟩
  unfold readsA at hb
  split at hb
  ·rename_i t x
   simp only [quietA,loadA] at h
   rw [Option.bind_eq_some_iff] at h
   obtain ⟨cs,h1,_⟩ := h
   rcases ptr _ hb with ⟨off,e⟩ | e <;> rw [e] at h1 <;> simp only [atA] at h1
   ·split at h1
    ·rename_i cs' hc; exact hd' _ hc
    ·cases h1
   ·cases h1
  ·rename_i t m x ok
   simp only [quietA] at h
   rcases ptr _ hb with ⟨off,e⟩ | e <;> rw [e] at h
   ·rw [lookup_ptr] at h; cases h
   ·rw [lookup_dead hd'] at h; cases h
  ·rename_i t x lo hi mx
   simp only [quietA] at h
   rcases ptr _ hb with ⟨off,e⟩ | e <;> rw [e] at h
   ·rw [slice_dead hd'] at h; cases h
   ·rw [slice_map] at h; cases h
  ·rename_i s d x
   simp only [quietA] at h
   cases e : evalA S ρ x <;> rw [e] at hb <;> simp only [slBlk,Option.some.injEq] at hb <;> first | (cases hb; done) | skip
   subst hb
   rw [e] at h
   unfold convHA at h
   split at h
   ·rename_i hc
    unfold convA at hc
    (repeat' split at hc) <;> first | (cases hc; done) | contradiction
   ·unfold strOfA at h
    split at h
    ·split at h
     ·contradiction
     ·contradiction
     ·rename_i e2
      cases e2
      split at h
      ·split at h
       ·rename_i hc; exact hd' _ hc
       ·cases h
      ·cases h
     ·cases h
    ·cases h
  ·rename_i args ts
   simp only [quietA] at h
   split at hb
   ·rename_i x hx
    split at hb
    ·rename_i b' e
     cases hb
     rw [hx] at h
     split at h
     ·rename_i t x' ht hx'
      cases hx'
      rw [e] at h
      rw [len_dead hd'] at h; cases h
     ·cases h
    ·cases hb
   ·cases hb
  ·cases hb
end Go.Am

/- That a region whose order is open keeps to the idealised one, in whatever order: what holds on the way. Generic: over any program. -/
namespace Go.Am
set_option linter.unusedVariables false
open Go.RowKit
structure Tra (S : AStat) (call : CallF) (lo n0 : Nat) (ops : Array Oper) (B : List Nat) (reads : List (Nat × Nat)) (touches : List (Nat × Option (List Nat))) (ρs : Nat → List AVal) (Hs : Nat → Heap) : Prop where
 step : ∀ j o,ops[j]? = some o → DStep S call lo n0 ops B reads touches j o (ρs j) (Hs j) (ρs (j + 1)) (Hs (j + 1))
 pair : PairOk ops B
 bits : Bits ops B
 lt : ∀ i k,(B.getD i 0).testBit k = true → k < i
 apart : apartB B reads touches = true
 still : CallStill S call
 wide : ∀ m,m < ops.size → newAt ops m = true → n0 + m < (Hs 0).length
variable {S : AStat} {call : CallF} {lo n0 : Nat} {ops : Array Oper} {B : List Nat} {reads : List (Nat × Nat)} {touches : List (Nat × Option (List Nat))} {ρs : Nat → List AVal} {Hs : Nat → Heap}
theorem putA_length (ρ : List AVal) (d : Option Tmp) (v : AVal) : (putA ρ d v).length = ρ.length := by cases d <;> simp [putA]
theorem putA_other (ρ : List AVal) (d : Option Tmp) (v : AVal) (s : Nat) (h : d ≠ some s) : (putA ρ d v).getD s undefA = ρ.getD s undefA := by
 cases d with
 | none => rfl
 | some d =>
  have : d ≠ s := fun e => h (by rw [e])
  simp only [putA,List.getD_eq_getElem?_getD,List.getElem?_set,if_neg this]
theorem Tra.put (T : Tra S call lo n0 ops B reads touches ρs Hs) {j : Nat} {o : Oper} (ho : ops[j]? = some o) : ∃ v,ρs (j + 1) = putA (ρs j) o.dst v := by
 cases T.step j o ho with
 | skip _ h _ => exact ⟨_,h⟩
 | new _ _ _ _ _ _ h _ => exact ⟨_,h⟩
 | eff _ _ _ _ _ _ _ h _ _ => exact ⟨_,h⟩
 | quiet _ _ _ _ _ h _ _ => exact ⟨_,h⟩
theorem Tra.slot (T : Tra S call lo n0 ops B reads touches ρs Hs) (s : Nat) : ∀ (d p : Nat),p + d ≤ ops.size → (∀ j,p ≤ j → j < p + d → dstAt ops j ≠ some s) → (ρs (p + d)).getD s undefA = (ρs p).getD s undefA
 | 0,p,_,_ => rfl
 | d + 1,p,hn,h => by
  have hlt : p + d < ops.size := by omega
  obtain ⟨v,hv⟩ := T.put (j := p + d) (o := ops[p + d]) (by simp [hlt])
  rw [show p + (d + 1) = p + d + 1 by omega,hv,putA_other _ _ _ _ (by have := h (p + d) (by omega) (by omega); simpa [dstAt,hlt] using this)]
  exact T.slot s d p (by omega) fun j h1 h2 => h j h1 (by omega)
theorem Tra.len (T : Tra S call lo n0 ops B reads touches ρs Hs) : ∀ k,k ≤ ops.size → (ρs k).length = (ρs 0).length
 | 0,_ => rfl
 | k + 1,h => by
  obtain ⟨v,hv⟩ := T.put (j := k) (o := ops[k]'(by omega)) (by simp [show k < ops.size by omega])
  rw [hv,putA_length]
  exact T.len k (by omega)
def newW (S : AStat) (ops : Array Oper) (ρs : Nat → List AVal) (j : Nat) : Bool :=
 match ops[j]? with
 | some o => isNewB o.op && guardA ops.toList (ρs j) o == some true
 | none => false
def isN (S : AStat) (ops : Array Oper) (ρs : Nat → List AVal) (n0 b : Nat) : Bool := decide (n0 ≤ b) && newW S ops ρs (b - n0)
def Keep (Hs : Nat → Heap) (j b : Nat) : Prop := b < (Hs j).length → (Hs (j + 1))[b]? = (Hs j)[b]? ∧ b < (Hs (j + 1)).length
theorem keep_chain (b : Nat) : ∀ (d p : Nat),b < (Hs p).length → (∀ j,p ≤ j → j < p + d → Keep Hs j b) → (Hs (p + d))[b]? = (Hs p)[b]? ∧ b < (Hs (p + d)).length
 | 0,p,h,_ => ⟨rfl,h⟩
 | d + 1,p,h,hk => by
  obtain ⟨h1,h2⟩ := keep_chain b d p h fun j g1 g2 => hk j g1 (by omega)
  obtain ⟨h3,h4⟩ := hk (p + d) (by omega) (by omega) h2
  exact ⟨h3.trans h1,h4⟩
theorem keep_chain' {b p q : Nat} (hpq : p ≤ q) (h : b < (Hs p).length) (hk : ∀ j,p ≤ j → j < q → Keep Hs j b) : (Hs q)[b]? = (Hs p)[b]? ∧ b < (Hs q).length := by
 have := keep_chain (Hs := Hs) b (q - p) p h fun j h1 h2 => hk j h1 (by omega)
 rwa [show p + (q - p) = q by omega] at this
theorem Tra.keep_calm (T : Tra S call lo n0 ops B reads touches ρs Hs) {j b : Nat} (hj : j < ops.size) (he : effAt ops j = false) (hn : newW S ops ρs j = true → b ≠ n0 + j) : Keep Hs j b := by
 intro hb
 have ho : ops[j]? = some ops[j] := by simp [hj]
 cases T.step j _ ho with
 | skip _ _ h => rw [h]; exact ⟨rfl,hb⟩
 | new hg hnw _ _ _ _ _ h =>
  have : newW S ops ρs j = true := by simp [newW,ho,hnw,hg]
  rw [h]
  exact ⟨by rw [List.getElem?_set,if_neg (fun e => hn this e.symm)],by simpa using hb⟩
 | eff _ _ h _ _ _ _ _ _ _ => simp [effAt,ho] at he; rw [he] at h; cases h
 | quiet _ _ _ _ _ _ h _ => rw [h]; exact ⟨rfl,hb⟩
theorem Tra.keep_hidden (T : Tra S call lo n0 ops B reads touches ρs Hs) {j m : Nat} (hj : j < ops.size) (he : effAt ops j = true) (hm : m < ops.size) (hn : newAt ops m = true) (hb : (B.getD j 0).testBit m = false) : Keep Hs j (n0 + m) := by
 intro hl
 have ho : ops[j]? = some ops[j] := by simp [hj]
 cases T.step j _ ho with
 | skip _ _ h => rw [h]; exact ⟨rfl,hl⟩
 | new _ hnw _ _ _ _ _ _ =>
  simp [effAt,ho] at he
  exfalso
  generalize (ops[j]).op = op at *
  cases op <;> simp [isNewB,isEffB] at hnw he
 | eff _ _ _ v H1 _ hlen _ h _ =>
  rw [h]
  rw [unhide_length]
  rw [unhide_get,if_pos ⟨mem_hidden.2 ⟨m,hm,hn,hb,rfl⟩,by omega⟩]
  refine ⟨?_,by omega⟩
  rw [List.getD_eq_getElem?_getD,List.getElem?_eq_getElem hl]
  rfl
 | quiet _ _ hq _ _ _ _ _ => simp [effAt,ho] at he; rw [he] at hq; cases hq
theorem Tra.keep_far (T : Tra S call lo n0 ops B reads touches ρs Hs) {i j b : Nat} (hj : j < ops.size) (he : effAt ops j = true) (hr : (i,b) ∈ reads) (h1 : (B.getD i 0).testBit j = false) (h2 : (B.getD j 0).testBit i = false) : Keep Hs j b := by
 intro hl
 have ho : ops[j]? = some ops[j] := by simp [hj]
 cases T.step j _ ho with
 | skip _ _ h => rw [h]; exact ⟨rfl,hl⟩
 | new _ hnw _ _ _ _ _ _ =>
  simp [effAt,ho] at he
  exfalso
  generalize (ops[j]).op = op at *
  cases op <;> simp [isNewB,isEffB] at hnw he
 | eff _ _ _ v H1 heff hlen _ h ht =>
  have hap := T.apart
  unfold apartB at hap
  rw [List.all_eq_true] at hap
  have := hap _ hr
  rw [List.all_eq_true] at this
  have := this _ ht
  simp only [h1,h2,Bool.false_or] at this
  split at this
  ·rename_i l hl'
   have hnl : b ∉ l := by simpa using this
   obtain ⟨g1,g2⟩ := touchD_keeps T.still heff (by rw [hide_length]; exact hlen) hl'
   rw [hide_length] at g1 g2
   rw [h,unhide_length,unhide_get]
   refine ⟨?_,by omega⟩
   split
   ·rw [List.getD_eq_getElem?_getD,List.getElem?_eq_getElem hl]
    rfl
   ·rename_i hnh
    rw [g2 b hl hnl,hide_get,if_neg]
    intro ⟨h3,_⟩
    exact hnh ⟨h3,by omega⟩
  ·cases this
 | quiet _ _ hq _ _ _ _ _ => simp [effAt,ho] at he; rw [he] at hq; cases hq
theorem Tra.mono1 (T : Tra S call lo n0 ops B reads touches ρs Hs) {j : Nat} (hj : j < ops.size) : (Hs j).length ≤ (Hs (j + 1)).length := by
 cases T.step j _ (show ops[j]? = some ops[j] by simp [hj]) with
 | skip _ _ h => rw [h]; exact Nat.le_refl _
 | new _ _ _ _ _ _ _ h => rw [h]; simp
 | eff _ _ _ _ _ _ hl _ h _ => rw [h,unhide_length]; exact hl
 | quiet _ _ _ _ _ _ h _ => rw [h]; exact Nat.le_refl _
theorem Tra.mono (T : Tra S call lo n0 ops B reads touches ρs Hs) {p : Nat} : ∀ (q : Nat),p ≤ q → q ≤ ops.size → (Hs p).length ≤ (Hs q).length
 | 0,h,_ => by have : p = 0 := by omega
               subst this; exact Nat.le_refl _
 | q + 1,h,hq => by
  rcases Nat.eq_or_lt_of_le h with h1 | h1
  ·rw [h1]; exact Nat.le_refl _
  ·exact Nat.le_trans (T.mono q (by omega) (by omega)) (T.mono1 (by omega))
theorem Tra.calm_len (T : Tra S call lo n0 ops B reads touches ρs Hs) : ∀ (d p : Nat),p + d ≤ ops.size → (∀ j,p ≤ j → j < p + d → effAt ops j = false) → (Hs (p + d)).length = (Hs p).length
 | 0,_,_,_ => rfl
 | d + 1,p,hn,h => by
  have hlt : p + d < ops.size := by omega
  have ih := T.calm_len d p (by omega) fun j h1 h2 => h j h1 (by omega)
  rw [← ih,show p + (d + 1) = p + d + 1 by omega]
  have he := h (p + d) (by omega) (by omega)
  have ho : ops[p + d]? = some ops[p + d] := by simp [hlt]
  cases T.step (p + d) _ ho with
  | skip _ _ h => rw [h]
  | new _ _ _ _ _ _ _ h => rw [h]; simp
  | eff _ _ h _ _ _ _ _ _ _ => simp [effAt,ho] at he; rw [he] at h; cases h
  | quiet _ _ _ _ _ _ h _ => rw [h]
def tm (S : AStat) (ops : Array Oper) (ρs : Nat → List AVal) (n0 tE b : Nat) : Nat := if isN S ops ρs n0 b then max tE (b - n0 + 1) else tE
def HD (S : AStat) (ops : Array Oper) (ρs : Nat → List AVal) (Hs : Nat → Heap) (n0 : Nat) (D : Nat → Bool) (tE : Nat) : Heap :=
 (List.range (Hs tE).length).map fun b => if isN S ops ρs n0 b && !D (b - n0) then none else (Hs (tm S ops ρs n0 tE b)).getD b none
theorem HD_length (D : Nat → Bool) (tE : Nat) : (HD S ops ρs Hs n0 D tE).length = (Hs tE).length := by simp [HD]
theorem HD_live {D : Nat → Bool} {tE b : Nat} {blk : ABlk} : (HD S ops ρs Hs n0 D tE)[b]? = some (some blk) ↔
 b < (Hs tE).length ∧ (isN S ops ρs n0 b = true → D (b - n0) = true) ∧ (Hs (tm S ops ρs n0 tE b))[b]? = some (some blk) := by
 unfold HD
 rcases Nat.lt_or_ge b (Hs tE).length with h | h
 ·rw [List.getElem?_map,List.getElem?_range h]
  simp only [Option.map_some,h,true_and,Option.some.injEq]
  by_cases hn : isN S ops ρs n0 b = true
  ·by_cases hD : D (b - n0) = true
   ·simp only [hn,hD,Bool.not_true,Bool.and_false,Bool.false_eq_true,if_false,implies_true,true_and]
    rw [List.getD_eq_getElem?_getD]
    cases (Hs (tm S ops ρs n0 tE b))[b]? <;> simp
   ·simp only [Bool.not_eq_true] at hD
    simp [hn,hD]
  ·simp only [Bool.not_eq_true] at hn
   simp only [hn,Bool.false_and,Bool.false_eq_true,if_false,false_implies,true_and]
   rw [List.getD_eq_getElem?_getD]
   cases (Hs (tm S ops ρs n0 tE b))[b]? <;> simp
 ·rw [List.getElem?_eq_none (by simpa using h)]
  simp
  omega
structure Inv (S : AStat) (lo n0 : Nat) (ops : Array Oper) (ρs : Nat → List AVal) (Hs : Nat → Heap) (c0 : Cx) (H0 : Heap) (D : Nat → Bool) (tE : Nat) (c : Cx) (a : Act) : Prop where
 tEn : tE ≤ ops.size
 eff : ∀ j,D j = true → effAt ops j = true → j < tE
 last : tE = 0 ∨ ∃ p,tE = p + 1 ∧ D p = true ∧ effAt ops p = true
 slots : ∀ s,∃ t,t ≤ ops.size ∧ (t = 0 ∨ ∃ p,t = p + 1 ∧ D p = true ∧ dstAt ops p = some s) ∧ (∀ j,D j = true → dstAt ops j = some s → j < t) ∧ V c ((ρs t).getD s undefA) (a.tmps.getD s undef)
 size : a.tmps.size = (ρs 0).length
 rel : Rel c (HD S ops ρs Hs n0 D tE)
 tr : Tr c0 H0 c (HD S ops ρs Hs n0 D tE)
 low : Low lo c0 H0 c (HD S ops ρs Hs n0 D tE)
 undone : ∀ m,newW S ops ρs m = true → D m = false → c.ι (n0 + m) = none
 defers : a.defers = []
 down : ∀ i o,ops[i]? = some o → D i = true → ∀ e ∈ o.after.toList,Region.binds .any e = true → D e.on = true
 dlt : ∀ i,D i = true → i < ops.size
 glob : GlobOk S c
 base : H0.length ≤ n0
structure Ready (ops : Array Oper) (D : Nat → Bool) (i : Nat) (o : Oper) : Prop where
 op : ops[i]? = some o
 not : D i = false
 pre : ∀ e ∈ o.after.toList,Region.binds .any e = true → D e.on = true
theorem Ready.bit {D : Nat → Bool} {i : Nat} {o : Oper} (hr : Ready ops D i o) (hb : Bits ops B) (hlt : ∀ i k,(B.getD i 0).testBit k = true → k < i)
 (down : ∀ i o,ops[i]? = some o → D i = true → ∀ e ∈ o.after.toList,Region.binds .any e = true → D e.on = true) {k : Nat} (hk : (B.getD i 0).testBit k = true) : D k = true := by
 have hi : i < ops.size := (Array.getElem?_eq_some_iff.1 hr.op).1
 have := hb (fun x => D x || x == i) (by
  intro x o' ho' hx e he hbd
  simp only [Bool.or_eq_true,beq_iff_eq] at hx ⊢
  rcases hx with hx | hx
  ·exact .inl (down x o' ho' hx e he hbd)
  ·subst hx
   rw [hr.op] at ho'
   cases ho'
   exact .inl (hr.pre e he hbd)) i k hi (by simp) hk
 simp only [Bool.or_eq_true,beq_iff_eq] at this
 rcases this with h | h
 ·exact h
 ·have := hlt i k hk
  omega
end Go.Am

/- That a region whose order is open keeps to the idealised one, in whatever order: the steps. Generic: over any program. -/
namespace Go.Am
open Go.RowKit
variable {S : AStat} {call : CallF} {lo n0 : Nat} {ops : Array Oper} {B : List Nat} {reads : List (Nat × Nat)} {touches : List (Nat × Option (List Nat))} {ρs : Nat → List AVal} {Hs : Nat → Heap}
variable {c0 c : Cx} {H0 : Heap} {D : Nat → Bool} {tE : Nat} {a : Act}
theorem Rel.sub {c : Cx} {H H2 : Heap} (hR : Rel c H) (hsub : ∀ (b : Nat) (blk : ABlk),H2[b]? = some (some blk) → H[b]? = some (some blk)) (hl : H.length ≤ H2.length) : Rel c H2 :=
 ⟨fun b blk h => hR.blk b blk (hsub b blk h),fun b b' x x' B y y' h h' => hR.inj b b' x x' B y y' (hsub b x h) (hsub b' x' h'),fun b hb => hR.fresh b (by omega),hR.lt⟩
theorem Tr.sub {c : Cx} {H H2 : Heap} (hsub : ∀ (b : Nat) (blk : ABlk),H2[b]? = some (some blk) → H[b]? = some (some blk)) : Tr c H c H2 :=
 ⟨Ext.refl c,Nat.le_refl _,fun _ _ _ => rfl,(fun B _ h => by obtain ⟨b,blk,base,h1,h2⟩ := h; exact ⟨b,blk,base,hsub b blk h1,h2⟩),fun _ _ h => .inl h,rfl,rfl,rfl⟩
theorem op_at {ops : Array Oper} {p : Nat} (h : p < ops.size) : ∃ x,ops[p]? = some x := ⟨ops[p],by simp [h]⟩
theorem newW_new {m : Nat} (h : newW S ops ρs m = true) : newAt ops m = true ∧ m < ops.size := by
 unfold newW at h
 unfold newAt
 cases ho : ops[m]? with
 | none => rw [ho] at h; cases h
 | some o =>
  rw [ho] at h
  simp only [Bool.and_eq_true] at h
  exact ⟨h.1,(Array.getElem?_eq_some_iff.1 ho).1⟩
theorem isN_spec {b : Nat} (h : isN S ops ρs n0 b = true) : n0 ≤ b ∧ newW S ops ρs (b - n0) = true := by
 simpa [isN] using h
theorem isN_of {m : Nat} (h : newW S ops ρs m = true) : isN S ops ρs n0 (n0 + m) = true := by
 simp [isN,h]
theorem new_not_eff {m : Nat} (h : newAt ops m = true) : effAt ops m = false := by
 unfold newAt at h
 unfold effAt
 cases ho : ops[m]? with
 | none => rfl
 | some o =>
  rw [ho] at h
  simp only at h ⊢
  generalize o.op = op at *
  cases op <;> simp [isNewB,isEffB] at h ⊢
theorem Inv.effs (T : Tra S call lo n0 ops B reads touches ρs Hs) (I : Inv S lo n0 ops ρs Hs c0 H0 D tE c a) {k : Nat} (hk : k < tE) (he : effAt ops k = true) : D k = true := by
 rcases I.last with h | ⟨p,h,hp,hpe⟩
 ·omega
 ·rcases Nat.eq_or_lt_of_le (show k ≤ p by omega) with h1 | h1
  ·rw [h1]; exact hp
  ·have hplt := I.dlt p hp
   have hok : ops[k]? = some ops[k] := by simp [show k < ops.size by omega]
   have hop : ops[p]? = some ops[p] := by simp [hplt]
   rcases T.pair.pair k p _ _ h1 hok hop with h2 | ⟨_,h2⟩
   ·exact T.bits D I.down p k hplt hp h2
   ·exact absurd ⟨by simpa [effAt,hok] using he,by simpa [effAt,hop] using hpe⟩ h2
theorem Inv.not_behind (T : Tra S call lo n0 ops B reads touches ρs Hs) (I : Inv S lo n0 ops ρs Hs c0 H0 D tE c a) {i : Nat} {o : Oper} (hr : Ready ops D i o) {j : Nat} (hj : D j = true) : (B.getD j 0).testBit i = false := by
 cases h : (B.getD j 0).testBit i with
 | false => rfl
 | true =>
  have := T.bits D I.down j i (I.dlt j hj) hj h
  rw [hr.not] at this
  cases this
theorem Inv.next (T : Tra S call lo n0 ops B reads touches ρs Hs) (I : Inv S lo n0 ops ρs Hs c0 H0 D tE c a) {i : Nat} {o : Oper} (hr : Ready ops D i o) (he : effAt ops i = true) : tE ≤ i ∧ ∀ k,k < i → effAt ops k = true → k < tE := by
 have hi : i < ops.size := (Array.getElem?_eq_some_iff.1 hr.op).1
 refine ⟨?_, ?_⟩
 ·rcases I.last with h | ⟨p,h,hp,hpe⟩
  ·omega
  ·rcases Nat.lt_trichotomy p i with h1 | h1 | h1
   ·omega
   ·subst h1; rw [hr.not] at hp; cases hp
   ·obtain ⟨y,hop⟩ := op_at (I.dlt p hp)
    rcases T.pair.pair i p _ _ h1 hr.op hop with h2 | ⟨_,h2⟩
    ·rw [I.not_behind T hr hp] at h2; cases h2
    ·exact absurd ⟨by simpa [effAt,hr.op] using he,by simpa [effAt,hop] using hpe⟩ h2
 ·intro k hk hke
  have hok : ops[k]? = some ops[k] := by simp [show k < ops.size by omega]
  rcases T.pair.pair k i _ _ hk hok hr.op with h2 | ⟨_,h2⟩
  ·exact I.eff k (hr.bit T.bits T.lt I.down h2) hke
  ·exact absurd ⟨by simpa [effAt,hok] using hke,by simpa [effAt,hr.op] using he⟩ h2
theorem Inv.look (T : Tra S call lo n0 ops B reads touches ρs Hs) (I : Inv S lo n0 ops ρs Hs c0 H0 D tE c a) {i : Nat} {o : Oper} (hr : Ready ops D i o) {s : Nat} (hs : s ∈ o.looksAt ops) : V c ((ρs i).getD s undefA) (a.tmps.getD s undef) := by
 have hi : i < ops.size := (Array.getElem?_eq_some_iff.1 hr.op).1
 obtain ⟨t,h1,h2,h3,h4⟩ := I.slots s
 have hti : t ≤ i := by
  rcases h2 with h | ⟨p,h,hp,hd⟩
  ·omega
  ·rcases Nat.lt_trichotomy p i with g | g | g
   ·omega
   ·subst g; rw [hr.not] at hp; cases hp
   ·obtain ⟨y,hop⟩ := op_at (I.dlt p hp)
    rcases T.pair.pair i p _ _ g hr.op hop with h5 | ⟨h5,_⟩
    ·rw [I.not_behind T hr hp] at h5; cases h5
    ·exact absurd hs ((Oper.apart_spec h5).2.2 s (by simpa [dstAt,hop] using hd))
 have := T.slot s (i - t) t (by omega) (by
  intro j hj1 hj2 hd
  have hjn : j < ops.size := by omega
  have hoj : ops[j]? = some ops[j] := by simp [hjn]
  have hji : j < i := by omega
  rcases T.pair.pair j i _ _ hji hoj hr.op with h5 | ⟨h5,_⟩
  ·have := h3 j (hr.bit T.bits T.lt I.down h5) hd
   omega
  ·exact (Oper.apart_spec h5).1 s (by simpa [dstAt,hoj] using hd) hs)
 rw [show t + (i - t) = i by omega] at this
 rw [this]
 exact h4
theorem Inv.evOn (T : Tra S call lo n0 ops B reads touches ρs Hs) (I : Inv S lo n0 ops ρs Hs c0 H0 D tE c a) {i : Nat} {o : Oper} (hr : Ready ops D i o) : EvOn S c (ρs i) a o.op.operands := by
 intro x hx
 cases x with
 | tmp t =>
  have : t ∈ o.looksAt ops := by
   unfold Oper.looksAt
   refine List.mem_append.2 (.inl ?_)
   rw [List.mem_filterMap]
   exact ⟨.tmp t,by simpa using hx,rfl⟩
  exact I.look T hr this
 | const v => exact constA_V c v
 | global g =>
  simp only [evalA,Act.eval]
  split
  ·rename_i cs h
   exact I.glob.v g cs h
  ·simp [V]
 | func f =>
  simp only [evalA,Act.eval,V]
  exact ⟨[],[],rfl,by simp [Vs],by simp [Vs]⟩
theorem Inv.guard (T : Tra S call lo n0 ops B reads touches ρs Hs) (I : Inv S lo n0 ops ρs Hs c0 H0 D tE c a) {i : Nat} {o : Oper} (hr : Ready ops D i o) {g : Bool} (h : guardA ops.toList (ρs i) o = some g) : Region.wanted o (yielded ops a.tmps) = g := by
 have hi : i < ops.size := (Array.getElem?_eq_some_iff.1 hr.op).1
 have hlen : (ρs i).length = a.tmps.size := by rw [T.len i (by omega),I.size]
 unfold guardA at h
 unfold Region.wanted
 split at h
 ·rename_i hg
  simp only [Option.some.injEq] at h
  rw [hg]
  exact h
 ·rename_i j want hg
  rw [hg]
  simp only
  have hops : ops.toList[j]? = ops[j]? := by simp
  rw [hops] at h
  split at h
  ·rename_i hd
   simp only [Option.some.injEq] at h
   subst h
   simp [yielded,hd]
  ·rename_i d hd
   have hmem : d ∈ o.looksAt ops := by
    unfold Oper.looksAt
    refine List.mem_append.2 (.inr ?_)
    rw [hg]
    simp [hd]
   have hV := I.look T hr hmem
   split at h
   ·rename_i hn
    simp only [Option.some.injEq] at h
    subst h
    have : a.tmps[d]? = none := by
     rw [List.getElem?_eq_none_iff] at hn
     rw [Array.getElem?_eq_none_iff]
     omega
    simp [yielded,hd,this]
   ·rename_i bv hn
    simp only [Option.some.injEq] at h
    subst h
    have hlt : d < a.tmps.size := Nat.lt_of_lt_of_eq (List.getElem?_eq_some_iff.1 hn).1 hlen
    rw [List.getD_eq_getElem?_getD,hn] at hV
    simp only [Option.getD_some,V] at hV
    have : a.tmps[d]? = some (.bool bv) := by
     rw [Array.getD_eq_getD_getElem?] at hV
     rw [Array.getElem?_eq_getElem hlt] at hV ⊢
     simpa using hV
    simp [yielded,hd,this]
   ·cases h
   ·rename_i av hnb hnj hn
    simp only [Option.some.injEq] at h
    subst h
    have hlt : d < a.tmps.size := Nat.lt_of_lt_of_eq (List.getElem?_eq_some_iff.1 hn).1 hlen
    rw [List.getD_eq_getElem?_getD,hn] at hV
    simp only [Option.getD_some] at hV
    have hv := not_bool hV (fun b e => hnb b e) (fun e => hnj e)
    have hy : yielded ops a.tmps j = none := by
     simp only [yielded,hd,Option.bind_some]
     rw [Array.getElem?_eq_getElem hlt]
     rw [Array.getD_eq_getD_getElem?,Array.getElem?_eq_getElem hlt] at hv
     simp only [Option.getD_some] at hv
     cases hval : a.tmps[d] <;> first | rfl | exact absurd hval (hv _)
    rw [hy]
    rfl
theorem Inv.slots' (T : Tra S call lo n0 ops B reads touches ρs Hs) (I : Inv S lo n0 ops ρs Hs c0 H0 D tE c a) {i : Nat} {o : Oper} (hr : Ready ops D i o) {c' : Cx} (hE : Ext c c') {v : AVal} {u : Value} (hv : V c' v u)
 (hρ : ρs (i + 1) = putA (ρs i) o.dst v) : ∀ s,∃ t,t ≤ ops.size ∧ (t = 0 ∨ ∃ p,t = p + 1 ∧ (D p || p == i) = true ∧ dstAt ops p = some s) ∧ (∀ j,(D j || j == i) = true → dstAt ops j = some s → j < t) ∧
  V c' ((ρs t).getD s undefA) ((a.put o.dst u).tmps.getD s undef) := by
 have hi : i < ops.size := (Array.getElem?_eq_some_iff.1 hr.op).1
 have hlen : (ρs i).length = a.tmps.size := by rw [T.len i (by omega),I.size]
 intro s
 by_cases hs : o.dst = some s
 ·refine ⟨i + 1,by omega,.inr ⟨i,rfl,by simp,by simp [dstAt,hr.op,hs]⟩, ?_, ?_⟩
  ·intro j hj hd
   simp only [Bool.or_eq_true,beq_iff_eq] at hj
   rcases hj with hj | hj
   ·rcases Nat.lt_trichotomy j i with h1 | h1 | h1
    ·omega
    ·omega
    ·obtain ⟨y,hoj⟩ := op_at (I.dlt j hj)
     rcases T.pair.pair i j _ _ h1 hr.op hoj with h5 | ⟨h5,_⟩
     ·rw [I.not_behind T hr hj] at h5; cases h5
     ·exact absurd (by simpa [dstAt,hoj] using hd) ((Oper.apart_spec h5).2.1 s hs)
   ·omega
  ·rw [hρ,hs]
   simp only [putA,Act.put]
   rw [List.getD_eq_getElem?_getD,Array.getD_eq_getD_getElem?,List.getElem?_set,if_pos rfl]
   by_cases hlt : s < (ρs i).length
   ·rw [if_pos hlt,Array.getElem?_setIfInBounds,if_pos rfl,if_pos (Nat.lt_of_lt_of_eq hlt hlen)]
    simpa using hv
   ·rw [if_neg hlt,Array.getElem?_setIfInBounds,if_pos rfl,if_neg (fun h => hlt (Nat.lt_of_lt_of_eq h hlen.symm))]
    exact undef_V c'
 ·obtain ⟨t,h1,h2,h3,h4⟩ := I.slots s
  refine ⟨t,h1, ?_, ?_, ?_⟩
  ·rcases h2 with h | ⟨p,h,hp,hd⟩
   ·exact .inl h
   ·exact .inr ⟨p,h,by simp [hp],hd⟩
  ·intro j hj hd
   simp only [Bool.or_eq_true,beq_iff_eq] at hj
   rcases hj with hj | hj
   ·exact h3 j hj hd
   ·subst hj
    simp only [dstAt,hr.op,Option.bind_some] at hd
    exact absurd hd hs
  ·have : (a.put o.dst u).tmps.getD s undef = a.tmps.getD s undef := by
    cases hd : o.dst with
    | none => rfl
    | some d =>
     have : d ≠ s := fun e => hs (by rw [hd,e])
     simp only [Act.put,Array.getD_eq_getD_getElem?,Array.getElem?_setIfInBounds,if_neg this]
   rw [this]
   exact V_ext hE _ _ h4
theorem Inv.down' (I : Inv S lo n0 ops ρs Hs c0 H0 D tE c a) {i : Nat} {o : Oper} (hr : Ready ops D i o) : ∀ x o',ops[x]? = some o' → (D x || x == i) = true → ∀ e ∈ o'.after.toList,Region.binds .any e = true → (D e.on || e.on == i) = true := by
 intro x o' ho' hx e he hb
 simp only [Bool.or_eq_true,beq_iff_eq] at hx ⊢
 rcases hx with hx | hx
 ·exact .inl (I.down x o' ho' hx e he hb)
 ·subst hx
  rw [hr.op] at ho'
  cases ho'
  exact .inl (hr.pre e he hb)
theorem Inv.dlt' (I : Inv S lo n0 ops ρs Hs c0 H0 D tE c a) {i : Nat} {o : Oper} (hr : Ready ops D i o) : ∀ x,(D x || x == i) = true → x < ops.size := by
 intro x hx
 simp only [Bool.or_eq_true,beq_iff_eq] at hx
 rcases hx with hx | hx
 ·exact I.dlt x hx
 ·subst hx
  exact (Array.getElem?_eq_some_iff.1 hr.op).1
theorem put_size (a : Act) (d : Option Tmp) (v : Value) : (a.put d v).tmps.size = a.tmps.size := by cases d <;> simp [Act.put]
theorem HD_calm {i : Nat} (hn : newW S ops ρs i = false) : HD S ops ρs Hs n0 (fun x => D x || x == i) tE = HD S ops ρs Hs n0 D tE := by
 unfold HD
 apply List.map_congr_left
 intro b _
 by_cases hb : isN S ops ρs n0 b = true
 ·obtain ⟨_,h2⟩ := isN_spec hb
  have : (b - n0 == i) = false := by
   cases h : (b - n0 == i) with
   | false => rfl
   | true =>
    simp only [beq_iff_eq] at h
    rw [h,hn] at h2
    cases h2
  simp [this]
 ·simp only [Bool.not_eq_true] at hb
  simp [hb]
theorem Inv.calm (T : Tra S call lo n0 ops B reads touches ρs Hs) (I : Inv S lo n0 ops ρs Hs c0 H0 D tE c a) {i : Nat} {o : Oper} (hr : Ready ops D i o) (he : effAt ops i = false) (hn : newW S ops ρs i = false) {v : AVal} {u : Value} (hv : V c v u)
 (hρ : ρs (i + 1) = putA (ρs i) o.dst v) : Inv S lo n0 ops ρs Hs c0 H0 (fun x => D x || x == i) tE c (a.put o.dst u) where
 tEn := I.tEn
 eff := by
  intro j hj hje
  simp only [Bool.or_eq_true,beq_iff_eq] at hj
  rcases hj with hj | hj
  ·exact I.eff j hj hje
  ·subst hj; rw [he] at hje; cases hje
 last := by
  rcases I.last with h | ⟨p,h1,h2,h3⟩
  ·exact .inl h
  ·exact .inr ⟨p,h1,by simp [h2],h3⟩
 slots := I.slots' T hr (Ext.refl c) hv hρ
 size := by rw [put_size]; exact I.size
 rel := by rw [HD_calm hn]; exact I.rel
 tr := by rw [HD_calm hn]; exact I.tr
 low := by rw [HD_calm hn]; exact I.low
 undone := by
  intro m hm hD
  simp only [Bool.or_eq_false_iff] at hD
  exact I.undone m hm hD.1
 defers := by rw [put_defers]; exact I.defers
 down := I.down' hr
 dlt := I.dlt' hr
 glob := I.glob
 base := I.base
theorem Inv.seen (T : Tra S call lo n0 ops B reads touches ρs Hs) (I : Inv S lo n0 ops ρs Hs c0 H0 D tE c a) {i b : Nat} {o : Oper} {blk : ABlk} (hr : Ready ops D i o) (he : effAt ops i = false) (hn : newW S ops ρs i = false)
 (hread : (i,b) ∈ reads) (hlive : (Hs i)[b]? = some (some blk)) (hι : c.ι b ≠ none) : (HD S ops ρs Hs n0 D tE)[b]? = some (some blk) := by
 have hi : i < ops.size := (Array.getElem?_eq_some_iff.1 hr.op).1
 have hbE : b < (Hs tE).length := by
  rcases Nat.lt_or_ge b (Hs tE).length with h | h
  ·exact h
  ·exact absurd (I.rel.fresh b (by rw [HD_length]; exact h)) hι
 have hbi : b < (Hs i).length := (List.getElem?_eq_some_iff.1 hlive).1
 have hND : isN S ops ρs n0 b = true → D (b - n0) = true ∧ b - n0 < i := by
  intro hN
  obtain ⟨h1,h2⟩ := isN_spec hN
  have hbe : n0 + (b - n0) = b := by omega
  have hDm : D (b - n0) = true := by
   cases h : D (b - n0) with
   | true => rfl
   | false => exact absurd (by have := I.undone _ h2 h; rwa [hbe] at this) hι
  refine ⟨hDm, ?_⟩
  rcases Nat.lt_trichotomy (b - n0) i with h | h | h
  ·exact h
  ·rw [h,hn] at h2; cases h2
  ·exfalso
   obtain ⟨hnew,hmlt⟩ := newW_new h2
   have hch := keep_chain' (Hs := Hs) (b := b) (p := i) (q := b - n0) (by omega) hbi (by
    intro j hj1 hj2
    by_cases hje : effAt ops j = true
    ·have := T.keep_hidden (j := j) (m := b - n0) (by omega) hje hmlt hnew (by
      cases hb : (B.getD j 0).testBit (b - n0) with
      | false => rfl
      | true => have := T.lt _ _ hb; omega)
     rwa [hbe] at this
    ·simp only [Bool.not_eq_true] at hje
     exact T.keep_calm (by omega) hje fun _ => by omega)
   have hom : ops[b - n0]? = some ops[b - n0] := by simp [hmlt]
   have hdead : (Hs (b - n0))[b]? = some none := by
    cases T.step _ _ hom with
    | skip hg _ _ =>
     simp [newW,hom,hg] at h2
    | new _ _ _ _ _ hd _ _ => rwa [hbe] at hd
    | eff _ h _ _ _ _ _ _ _ _ => simp [newAt,hom] at hnew; rw [hnew] at h; cases h
    | quiet _ h _ _ _ _ _ _ => simp [newAt,hom] at hnew; rw [hnew] at h; cases h
   rw [hch.1,hlive] at hdead
   cases hdead
 refine HD_live.2 ⟨hbE,fun hN => (hND hN).1, ?_⟩
 have far : ∀ j,j < ops.size → effAt ops j = true → (B.getD i 0).testBit j = false → (B.getD j 0).testBit i = false → Keep Hs j b := fun j h1 h2 h3 h4 => T.keep_far h1 h2 hread h3 h4
 have hτ : tE ≤ tm S ops ρs n0 tE b := by unfold tm; split <;> omega
 rcases Nat.lt_or_ge i (tm S ops ρs n0 tE b) with hlt | hge
 ·have hτe : tm S ops ρs n0 tE b = tE := by
   unfold tm at hlt ⊢
   split
   ·rename_i hN
    rw [if_pos hN] at hlt
    have := (hND hN).2
    omega
   ·rfl
  rw [hτe] at hlt ⊢
  have hch := keep_chain' (Hs := Hs) (b := b) (p := i) (q := tE) (by omega) hbi (by
   intro j hj1 hj2
   have hjn : j < ops.size := by have := I.tEn; omega
   by_cases hje : effAt ops j = true
   ·have hji : j ≠ i := fun e => by rw [e,he] at hje; cases hje
    have hDj := I.effs T hj2 hje
    refine far j hjn hje ?_ (I.not_behind T hr hDj)
    cases hb : (B.getD i 0).testBit j with
    | false => rfl
    | true => have := T.lt _ _ hb; omega
   ·simp only [Bool.not_eq_true] at hje
    refine T.keep_calm hjn hje fun hnw hbj => ?_
    have hN : isN S ops ρs n0 b = true := by rw [hbj]; exact isN_of hnw
    have := (hND hN).2
    omega)
  rw [hch.1]
  exact hlive
 ·have hbτ : b < (Hs (tm S ops ρs n0 tE b)).length := Nat.lt_of_lt_of_le hbE (T.mono _ hτ (by omega))
  have hch := keep_chain' (Hs := Hs) (b := b) (p := tm S ops ρs n0 tE b) (q := i) hge hbτ (by
   intro j hj1 hj2
   have hjn : j < ops.size := by omega
   by_cases hje : effAt ops j = true
   ·have hDj : D j = false := by
     cases h : D j with
     | false => rfl
     | true => have := I.eff j h hje; omega
    refine far j hjn hje ?_ ?_
    ·cases hb : (B.getD i 0).testBit j with
     | false => rfl
     | true => rw [hr.bit T.bits T.lt I.down hb] at hDj; cases hDj
    ·cases hb : (B.getD j 0).testBit i with
     | false => rfl
     | true => have := T.lt _ _ hb; omega
   ·simp only [Bool.not_eq_true] at hje
    refine T.keep_calm hjn hje fun hnw hbj => ?_
    have hN : isN S ops ρs n0 b = true := by rw [hbj]; exact isN_of hnw
    unfold tm at hj1
    rw [if_pos hN] at hj1
    omega)
  rw [← hch.1]
  exact hlive
end Go.Am

/- That a region whose order is open keeps to the idealised one, in whatever order: new blocks, effects, the whole. Generic: over any program. -/
namespace Go.Am
set_option linter.unusedVariables false
open Go.RowKit
variable {S : AStat} {call : CallF} {lo n0 : Nat} {ops : Array Oper} {B : List Nat} {reads : List (Nat × Nat)} {touches : List (Nat × Option (List Nat))} {ρs : Nat → List AVal} {Hs : Nat → Heap}
variable {c0 c : Cx} {H0 : Heap} {D : Nat → Bool} {tE : Nat} {a : Act}
theorem Inv.newStep (T : Tra S call lo n0 ops B reads touches ρs Hs) (I : Inv S lo n0 ops ρs Hs c0 H0 D tE c a) {i : Nat} {o : Oper} (hr : Ready ops D i o) (hn : newW S ops ρs i = true) {blk : ABlk} {mk : Nat → AVal}
 (hd : (Hs i)[n0 + i]? = some none) (hH : Hs (i + 1) = (Hs i).set (n0 + i) (some blk)) (hρ : ρs (i + 1) = putA (ρs i) o.dst (mk (n0 + i))) {obj : Obj} {u : Value}
 (hm : ∀ b,Ext c (c.put b c.w.heap.size 0 (c.w.alloc obj)) → BlkRel (c.put b c.w.heap.size 0 (c.w.alloc obj)) c.w.heap.size 0 blk ∧ V (c.put b c.w.heap.size 0 (c.w.alloc obj)) (mk b) u) :
 Inv S lo n0 ops ρs Hs c0 H0 (fun x => D x || x == i) tE (c.put (n0 + i) c.w.heap.size 0 (c.w.alloc obj)) (a.put o.dst u) := by
 have hi : i < ops.size := (Array.getElem?_eq_some_iff.1 hr.op).1
 obtain ⟨hnew,_⟩ := newW_new hn
 have he := new_not_eff hnew
 have hι := I.undone i hn hr.not
 have hw := T.wide i hi hnew
 have hlenE : n0 + i < (Hs tE).length := Nat.lt_of_lt_of_le hw (T.mono _ (Nat.zero_le _) I.tEn)
 have hlive : (HD S ops ρs Hs n0 (fun x => D x || x == i) tE)[n0 + i]? = some (some blk) := by
  refine HD_live.2 ⟨hlenE,fun _ => by simp, ?_⟩
  have hτ : tm S ops ρs n0 tE (n0 + i) = max tE (i + 1) := by
   unfold tm
   rw [if_pos (isN_of hn)]
   congr 2
   omega
  rw [hτ]
  have hb1 : n0 + i < (Hs (i + 1)).length := by
   rw [hH,List.length_set]
   exact (List.getElem?_eq_some_iff.1 hd).1
  have h1 : (Hs (i + 1))[n0 + i]? = some (some blk) := by
   rw [hH,List.getElem?_set,if_pos rfl,if_pos (List.getElem?_eq_some_iff.1 hd).1]
  have htE := I.tEn
  have hch := keep_chain' (Hs := Hs) (b := n0 + i) (p := i + 1) (q := max tE (i + 1)) (by omega) hb1 (by
   intro j hj1 hj2
   have hjn : j < ops.size := by omega
   by_cases hje : effAt ops j = true
   ·exact T.keep_hidden hjn hje hi hnew (I.not_behind T hr (I.effs T (by omega) hje))
   ·simp only [Bool.not_eq_true] at hje
    exact T.keep_calm hjn hje fun _ => by omega)
  rw [hch.1]
  exact h1
 have hadd := I.rel.add (H' := HD S ops ρs Hs n0 (fun x => D x || x == i) tE) (n0 + i) obj blk hι (by rw [HD_length]; exact hlenE) (by rw [HD_length,HD_length]; exact Nat.le_refl _) (by
  intro x y hxy
  by_cases hx : x = n0 + i
  ·subst hx
   rw [hlive] at hxy
   simp only [Option.some.injEq] at hxy
   exact .inl ⟨rfl,hxy.symm⟩
  ·refine .inr ⟨hx, ?_⟩
   obtain ⟨g1,g2,g3⟩ := HD_live.1 hxy
   refine HD_live.2 ⟨g1,fun hN => ?_,g3⟩
   have := g2 hN
   obtain ⟨h5,_⟩ := isN_spec hN
   simp only [Bool.or_eq_true,beq_iff_eq] at this
   rcases this with h | h
   ·exact h
   ·omega) (fun hE => (hm _ hE).1)
 refine ⟨I.tEn, ?_, ?_,I.slots' T hr hadd.2.ext (hm _ hadd.2.ext).2 hρ,by rw [put_size]; exact I.size,hadd.1,I.tr.trans hadd.2, ?_, ?_,by rw [put_defers]; exact I.defers,I.down' hr,I.dlt' hr,I.glob.ext hadd.2.ext,I.base⟩
 ·intro j hj hje
  simp only [Bool.or_eq_true,beq_iff_eq] at hj
  rcases hj with hj | hj
  ·exact I.eff j hj hje
  ·subst hj; rw [he] at hje; cases hje
 ·rcases I.last with h | ⟨p,h1,h2,h3⟩
  ·exact .inl h
  ·exact .inr ⟨p,h1,by simp [h2],h3⟩
 ·-- the new number may be known to nobody ahead of the region
  refine ⟨?_, ?_,Nat.le_trans I.low.len (by rw [HD_length,HD_length]; exact Nat.le_refl _)⟩
  ·intro b blk' hb hH0
   obtain ⟨h1,h2⟩ := I.low.low b blk' hb hH0
   obtain ⟨B',base',h3,_,h4,_⟩ := I.rel.blk b blk' h1
   refine ⟨?_,fun B base hi' => ?_⟩
   ·obtain ⟨g1,g2,g3⟩ := HD_live.1 h1
    exact HD_live.2 ⟨g1,fun hN => by simp [g2 hN],g3⟩
   ·have h5 := h2 B base hi'
    have h6 := I.tr.ext.ι b _ hi'
    rw [h3] at h6
    simp only [Option.some.injEq,Prod.mk.injEq] at h6
    obtain ⟨rfl,rfl⟩ := h6
    rw [← h5]
    exact Below.heap_alloc _ _ _ h4
  ·intro b hb h
   have := I.base
   simp only [Cx.put]
   rw [if_neg (by omega)]
   exact I.low.dom b hb h
 ·intro m hm' hD
  simp only [Bool.or_eq_false_iff,beq_eq_false_iff_ne] at hD
  simp only [Cx.put]
  rw [if_neg (by omega)]
  exact I.undone m hm' hD.1
theorem Inv.still (T : Tra S call lo n0 ops B reads touches ρs Hs) (_I : Inv S lo n0 ops ρs Hs c0 H0 D tE c a) {q : Nat} (hq : q ≤ ops.size) (hle : tE ≤ q) (hno : ∀ k,k < q → effAt ops k = true → k < tE) :
 (Hs q).length = (Hs tE).length ∧ ∀ b t,tE ≤ t → t ≤ q → b < (Hs tE).length → (isN S ops ρs n0 b = true → b - n0 < t) → (Hs q)[b]? = (Hs t)[b]? := by
 have hcalm : ∀ j,tE ≤ j → j < q → effAt ops j = false := by
  intro j h1 h2
  cases h : effAt ops j with
  | false => rfl
  | true => have := hno j h2 h; omega
 refine ⟨?_, ?_⟩
 ·have := T.calm_len (q - tE) tE (by omega) fun j h1 h2 => hcalm j h1 (by omega)
  rwa [show tE + (q - tE) = q by omega] at this
 ·intro b t ht1 ht2 hb hN
  have hbt : b < (Hs t).length := Nat.lt_of_lt_of_le hb (T.mono _ ht1 (by omega))
  refine (keep_chain' (Hs := Hs) (b := b) ht2 hbt fun j h1 h2 => T.keep_calm (by omega) (hcalm j (by omega) h2) fun hnw hbj => ?_).1
  have hNb : isN S ops ρs n0 b = true := by rw [hbj]; exact isN_of hnw
  have := hN hNb
  omega
theorem Inv.skipEff (T : Tra S call lo n0 ops B reads touches ρs Hs) (I : Inv S lo n0 ops ρs Hs c0 H0 D tE c a) {i : Nat} {o : Oper} (hr : Ready ops D i o) (he : effAt ops i = true) (hH : Hs (i + 1) = Hs i) {v : AVal} {u : Value} (hv : V c v u)
 (hρ : ρs (i + 1) = putA (ρs i) o.dst v) (hlo : lo ≤ n0) : Inv S lo n0 ops ρs Hs c0 H0 (fun x => D x || x == i) (i + 1) c (a.put o.dst u) := by
 have hi : i < ops.size := (Array.getElem?_eq_some_iff.1 hr.op).1
 obtain ⟨hle,hno⟩ := I.next T hr he
 obtain ⟨hlen,hst⟩ := I.still T (by omega) hle hno
 have hni : newW S ops ρs i = false := by
  cases h : newW S ops ρs i with
  | false => rfl
  | true => rw [new_not_eff (newW_new h).1] at he; cases he
 have hD : ∀ b,isN S ops ρs n0 b = true → ((D (b - n0) || (b - n0) == i) = true ↔ D (b - n0) = true) := by
  intro b hN
  obtain ⟨_,h2⟩ := isN_spec hN
  simp only [Bool.or_eq_true,beq_iff_eq]
  exact ⟨fun h => h.resolve_right fun e => (by rw [e,hni] at h2; cases h2),.inl⟩
 have same : ∀ b,b < (Hs tE).length → (isN S ops ρs n0 b = true → D (b - n0) = true) → (Hs (tm S ops ρs n0 (i + 1) b))[b]? = (Hs (tm S ops ρs n0 tE b))[b]? := by
  intro b hb _
  unfold tm
  split
  ·rename_i hN
   rcases Nat.lt_trichotomy (b - n0) i with h | h | h
   ·rw [show max (i + 1) (b - n0 + 1) = i + 1 by omega,hH]
    exact hst b _ (by omega) (by omega) hb (fun _ => by omega)
   ·obtain ⟨_,h2⟩ := isN_spec hN
    rw [h,hni] at h2
    cases h2
   ·rw [show max (i + 1) (b - n0 + 1) = b - n0 + 1 by omega,show max tE (b - n0 + 1) = b - n0 + 1 by omega]
  ·rename_i hN
   rw [hH]
   exact hst b tE (Nat.le_refl _) hle hb (fun h => absurd h hN)
 have liv : ∀ (b : Nat) (blk : ABlk),(HD S ops ρs Hs n0 (fun x => D x || x == i) (i + 1))[b]? = some (some blk) ↔ (HD S ops ρs Hs n0 D tE)[b]? = some (some blk) := by
  intro b blk
  rw [HD_live,HD_live]
  have hl2 : (Hs (i + 1)).length = (Hs tE).length := by rw [hH,hlen]
  rw [hl2]
  constructor
  ·rintro ⟨h1,h2,h3⟩
   have h2' : isN S ops ρs n0 b = true → D (b - n0) = true := fun hN => (hD b hN).1 (h2 hN)
   exact ⟨h1,h2',by rw [← same b h1 h2']; exact h3⟩
  ·rintro ⟨h1,h2,h3⟩
   exact ⟨h1,fun hN => (hD b hN).2 (h2 hN),by rw [same b h1 h2]; exact h3⟩
 have hl3 : (HD S ops ρs Hs n0 D tE).length = (HD S ops ρs Hs n0 (fun x => D x || x == i) (i + 1)).length := by rw [HD_length,HD_length,hH,hlen]
 refine ⟨by omega, ?_,.inr ⟨i,rfl,by simp,he⟩,I.slots' T hr (Ext.refl c) hv hρ,by rw [put_size]; exact I.size,I.rel.sub (fun b blk h => (liv b blk).1 h) (by omega),
  I.tr.trans (Tr.sub fun b blk h => (liv b blk).1 h), ?_, ?_,by rw [put_defers]; exact I.defers,I.down' hr,I.dlt' hr,I.glob,I.base⟩
 ·intro j hj hje
  simp only [Bool.or_eq_true,beq_iff_eq] at hj
  rcases hj with hj | hj
  ·have := I.eff j hj hje
   omega
  ·omega
 ·exact ⟨fun b blk hb h => ⟨(liv b blk).2 (I.low.low b blk hb h).1,(I.low.low b blk hb h).2⟩,I.low.dom,by have := I.low.len; omega⟩
 ·intro m hm hDm
  simp only [Bool.or_eq_false_iff] at hDm
  exact I.undone m hm hDm.1
theorem Inv.effStep (T : Tra S call lo n0 ops B reads touches ρs Hs) (I : Inv S lo n0 ops ρs Hs c0 H0 D tE c a) {i : Nat} {o : Oper} (hr : Ready ops D i o) (he : effAt ops i = true) (hlo : lo ≤ n0) :
 Rel c (hide (Hs i) (hidden ops B n0 i)) ∧ ∀ (v : AVal) (u : Value) (H1 : Heap) (c' : Cx),Hs (i + 1) = unhide (Hs i) H1 (hidden ops B n0 i) → ρs (i + 1) = putA (ρs i) o.dst v →
  Rel c' H1 → Tr c (hide (Hs i) (hidden ops B n0 i)) c' H1 → Low lo c (hide (Hs i) (hidden ops B n0 i)) c' H1 → V c' v u →
  Inv S lo n0 ops ρs Hs c0 H0 (fun x => D x || x == i) (i + 1) c' (a.put o.dst u) := by
 have hi : i < ops.size := (Array.getElem?_eq_some_iff.1 hr.op).1
 obtain ⟨hle,hno⟩ := I.next T hr he
 obtain ⟨hlen,hst⟩ := I.still T (by omega) hle hno
 have hni : newW S ops ρs i = false := by
  cases h : newW S ops ρs i with
  | false => rfl
  | true => rw [new_not_eff (newW_new h).1] at he; cases he
 -- what the effect sees is there
 have sub : ∀ (b : Nat) (blk : ABlk),(hide (Hs i) (hidden ops B n0 i))[b]? = some (some blk) → b ∉ hidden ops B n0 i ∧ (Hs i)[b]? = some (some blk) ∧ (HD S ops ρs Hs n0 D tE)[b]? = some (some blk) := by
  intro b blk h
  rw [hide_get] at h
  split at h
  ·cases h
  ·rename_i hnh
   have hbl : b < (Hs i).length := (List.getElem?_eq_some_iff.1 h).1
   have hnh' : b ∉ hidden ops B n0 i := fun e => hnh ⟨e,hbl⟩
   refine ⟨hnh',h, ?_⟩
   have hbE : b < (Hs tE).length := by omega
   have hND : isN S ops ρs n0 b = true → D (b - n0) = true ∧ b - n0 < i := by
    intro hN
    obtain ⟨h1,h2⟩ := isN_spec hN
    obtain ⟨h3,h4⟩ := newW_new h2
    have hbit : (B.getD i 0).testBit (b - n0) = true := by
     cases hb : (B.getD i 0).testBit (b - n0) with
     | true => rfl
     | false => exact absurd (mem_hidden.2 ⟨b - n0,h4,h3,hb,by omega⟩) hnh'
    exact ⟨hr.bit T.bits T.lt I.down hbit,T.lt _ _ hbit⟩
   refine HD_live.2 ⟨hbE,fun hN => (hND hN).1, ?_⟩
   rw [← hst b (tm S ops ρs n0 tE b) (by unfold tm; split <;> omega) (by
    unfold tm
    split
    ·rename_i hN; have := (hND hN).2; omega
    ·exact hle) hbE (by intro hN; unfold tm; rw [if_pos hN]; omega)]
   exact h
 have hlen2 : (hide (Hs i) (hidden ops B n0 i)).length = (HD S ops ρs Hs n0 D tE).length := by rw [hide_length,HD_length,hlen]
 refine ⟨I.rel.sub (fun b blk h => (sub b blk h).2.2) (by omega), ?_⟩
 intro v u H1 c' hH hρ hR' hT' hL' hv
 -- each live block behind the effect is one of the effect's, or one out of its sight
 have liv : ∀ (b : Nat) (blk : ABlk),(HD S ops ρs Hs n0 (fun x => D x || x == i) (i + 1))[b]? = some (some blk) →
  (b ∉ hidden ops B n0 i ∧ H1[b]? = some (some blk)) ∨ (b ∈ hidden ops B n0 i ∧ (HD S ops ρs Hs n0 D tE)[b]? = some (some blk)) := by
  intro b blk h
  obtain ⟨h1,h2,h3⟩ := HD_live.1 h
  have hl1 : (Hs (i + 1)).length = H1.length := by rw [hH,unhide_length]
  have hND : isN S ops ρs n0 b = true → D (b - n0) = true ∧ b - n0 ≠ i := by
   intro hN
   obtain ⟨_,h5⟩ := isN_spec hN
   have hne : b - n0 ≠ i := fun e => by rw [e,hni] at h5; cases h5
   have := h2 hN
   simp only [Bool.or_eq_true,beq_iff_eq] at this
   exact ⟨this.resolve_right hne,hne⟩
  by_cases hh : b ∈ hidden ops B n0 i
  ·refine .inr ⟨hh, ?_⟩
   obtain ⟨j,hj1,hj2,hj3,rfl⟩ := mem_hidden.1 hh
   have hbE : n0 + j < (Hs tE).length := Nat.lt_of_lt_of_le (T.wide j hj1 hj2) (T.mono _ (Nat.zero_le _) I.tEn)
   refine HD_live.2 ⟨hbE,fun hN => (hND hN).1, ?_⟩
   have back : (Hs (i + 1))[n0 + j]? = (Hs i)[n0 + j]? := by
    rw [hH,unhide_get,if_pos ⟨hh,by omega⟩,List.getD_eq_getElem?_getD,List.getElem?_eq_getElem (by omega)]
    rfl
   rw [← h3]
   unfold tm
   split
   ·rename_i hN
    have hji : n0 + j - n0 = j := by omega
    rw [hji] at *
    obtain ⟨_,hne⟩ := hND hN
    rw [hji] at hne
    rcases Nat.lt_or_ge j i with hlt | hge
    ·rw [show max (i + 1) (j + 1) = i + 1 by omega,back]
     exact (hst _ _ (by omega) (by omega) hbE (fun _ => by omega)).symm
    ·rw [show max (i + 1) (j + 1) = j + 1 by omega,show max tE (j + 1) = j + 1 by omega]
   ·rename_i hN
    rw [back]
    exact (hst _ tE (Nat.le_refl _) hle hbE (fun h => absurd h hN)).symm
  ·refine .inl ⟨hh, ?_⟩
   have hτ : tm S ops ρs n0 (i + 1) b = i + 1 := by
    unfold tm
    split
    ·rename_i hN
     obtain ⟨hDm,hne⟩ := hND hN
     obtain ⟨g1,g2⟩ := isN_spec hN
     obtain ⟨g3,g4⟩ := newW_new g2
     have hbit : (B.getD i 0).testBit (b - n0) = true := by
      cases hb : (B.getD i 0).testBit (b - n0) with
      | true => rfl
      | false => exact absurd (mem_hidden.2 ⟨b - n0,g4,g3,hb,by omega⟩) hh
     have := T.lt _ _ hbit
     omega
    ·rfl
   rw [hτ,hH,unhide_get,if_neg (fun e => hh e.1)] at h3
   exact h3
 -- what is out of the effect's sight has not turned
 have far : ∀ (b : Nat) (blk : ABlk),b ∈ hidden ops B n0 i → (HD S ops ρs Hs n0 D tE)[b]? = some (some blk) → ∃ B' base,c.ι b = some (B',base) ∧ ¬ c.I B' ∧ B' < c.w.heap.size ∧ BlkRel c B' base blk ∧ ¬ Img c (hide (Hs i) (hidden ops B n0 i)) B' := by
  intro b blk hb h
  obtain ⟨B',base,h1,h2,h3,h4⟩ := I.rel.blk b blk h
  refine ⟨B',base,h1,h2,h3,h4, ?_⟩
  rintro ⟨b2,blk2,base2,h5,h6⟩
  obtain ⟨g1,_,g2⟩ := sub b2 blk2 h5
  have := I.rel.inj b b2 blk blk2 B' base base2 h g2 h1 h6
  subst this
  exact g1 hb
 have hl1 : (Hs (i + 1)).length = H1.length := by rw [hH,unhide_length]
 have hrel : Rel c' (HD S ops ρs Hs n0 (fun x => D x || x == i) (i + 1)) := by
  refine ⟨?_, ?_, ?_,hR'.lt⟩
  ·intro b blk h
   rcases liv b blk h with ⟨_,h1⟩ | ⟨h1,h2⟩
   ·exact hR'.blk b blk h1
   ·obtain ⟨B',base,g1,g2,g3,g4,g5⟩ := far b blk h1 h2
    refine ⟨B',base,hT'.ext.ι _ _ g1, ?_,Nat.lt_of_lt_of_le g3 hT'.size,g4.ext hT'.ext (hT'.frame B' g3 g5)⟩
    intro hI
    rcases hT'.imm B' g3 hI with h | h
    ·exact g2 h
    ·exact g5 h
  ·intro b b' blk blk' B' base base' h h' hi1 hi2
   rcases liv b blk h with ⟨g0,g1⟩ | ⟨g0,g1⟩ <;> rcases liv b' blk' h' with ⟨k0,k1⟩ | ⟨k0,k1⟩
   ·exact hR'.inj b b' blk blk' B' base base' g1 k1 hi1 hi2
   ·obtain ⟨B2,base2,f1,f2,f3,f4,f5⟩ := far b' blk' k0 k1
    rw [hT'.ext.ι _ _ f1] at hi2
    simp only [Option.some.injEq,Prod.mk.injEq] at hi2
    obtain ⟨rfl,rfl⟩ := hi2
    exact absurd (hT'.img B2 f3 ⟨b,blk,base,g1,hi1⟩) f5
   ·obtain ⟨B2,base2,f1,f2,f3,f4,f5⟩ := far b blk g0 g1
    rw [hT'.ext.ι _ _ f1] at hi1
    simp only [Option.some.injEq,Prod.mk.injEq] at hi1
    obtain ⟨rfl,rfl⟩ := hi1
    exact absurd (hT'.img B2 f3 ⟨b',blk',base',k1,hi2⟩) f5
   ·obtain ⟨B2,base2,f1,_⟩ := far b blk g0 g1
    obtain ⟨B3,base3,f2,_⟩ := far b' blk' k0 k1
    rw [hT'.ext.ι _ _ f1] at hi1
    rw [hT'.ext.ι _ _ f2] at hi2
    simp only [Option.some.injEq,Prod.mk.injEq] at hi1 hi2
    obtain ⟨rfl,rfl⟩ := hi1
    obtain ⟨rfl,rfl⟩ := hi2
    exact I.rel.inj b b' blk blk' _ _ _ g1 k1 f1 f2
  ·intro b hb
   rw [HD_length,hl1] at hb
   exact hR'.fresh b hb
 have imgs : ∀ X,Img c (hide (Hs i) (hidden ops B n0 i)) X → Img c (HD S ops ρs Hs n0 D tE) X := by
  rintro X ⟨b,blk,base,h1,h2⟩
  exact ⟨b,blk,base,(sub b blk h1).2.2,h2⟩
 have htr : Tr c (HD S ops ρs Hs n0 D tE) c' (HD S ops ρs Hs n0 (fun x => D x || x == i) (i + 1)) := by
  refine ⟨hT'.ext,hT'.size,fun X hX hn => hT'.frame X hX fun h => hn (imgs X h), ?_, ?_,hT'.os,hT'.tape,hT'.output⟩
  ·rintro X hX ⟨b,blk,base,h1,h2⟩
   rcases liv b blk h1 with ⟨_,g1⟩ | ⟨g0,g1⟩
   ·exact imgs X (hT'.img X hX ⟨b,blk,base,g1,h2⟩)
   ·obtain ⟨B2,base2,f1,_⟩ := far b blk g0 g1
    rw [hT'.ext.ι _ _ f1] at h2
    simp only [Option.some.injEq,Prod.mk.injEq] at h2
    obtain ⟨rfl,rfl⟩ := h2
    exact ⟨b,blk,base2,g1,f1⟩
  ·intro X hX h
   rcases hT'.imm X hX h with h | h
   ·exact .inl h
   ·exact .inr (imgs X h)
 have hlow : Low lo c (HD S ops ρs Hs n0 D tE) c' (HD S ops ρs Hs n0 (fun x => D x || x == i) (i + 1)) := by
  refine ⟨?_, ?_, ?_⟩
  ·intro b blk hb h
   obtain ⟨g1,g2,g3⟩ := HD_live.1 h
   have hbn : b < n0 := by omega
   have hN : isN S ops ρs n0 b = false := by simp [isN]; omega
   have hτ : ∀ t,tm S ops ρs n0 t b = t := fun t => by simp [tm,hN]
   rw [hτ] at g3
   have hnh : b ∉ hidden ops B n0 i := by
    intro hm
    obtain ⟨j,_,_,_,hj⟩ := mem_hidden.1 hm
    omega
   have hIi : (hide (Hs i) (hidden ops B n0 i))[b]? = some (some blk) := by
    rw [hide_get,if_neg (fun e => hnh e.1),hst b tE (Nat.le_refl _) hle g1 (fun h => by rw [hN] at h; cases h)]
    exact g3
   obtain ⟨h5,h6⟩ := hL'.low b blk hb hIi
   refine ⟨HD_live.2 ⟨?_,fun h => (by rw [hN] at h; cases h), ?_⟩,h6⟩
   ·rw [hl1]
    exact (List.getElem?_eq_some_iff.1 h5).1
   ·rw [hτ,hH,unhide_get,if_neg (fun e => hnh e.1)]
    exact h5
  ·intro b hb h
   exact hL'.dom b (by omega) h
  ·rw [HD_length,HD_length,hl1]
   have := hL'.len
   rw [hide_length] at this
   omega
 refine ⟨by omega, ?_,.inr ⟨i,rfl,by simp,he⟩,I.slots' T hr hT'.ext hv hρ,by rw [put_size]; exact I.size,hrel,I.tr.trans htr,I.low.trans I.tr.ext hlow, ?_,by rw [put_defers]; exact I.defers,I.down' hr,I.dlt' hr,I.glob.ext hT'.ext,I.base⟩
 ·intro j hj hje
  simp only [Bool.or_eq_true,beq_iff_eq] at hj
  rcases hj with hj | hj
  ·have := I.eff j hj hje
   omega
  ·omega
 ·intro m hm hDm
  simp only [Bool.or_eq_false_iff] at hDm
  obtain ⟨h3,h4⟩ := newW_new hm
  refine hL'.dom _ ?_ (I.undone m hm hDm.1)
  rw [hide_length]
  exact Nat.lt_of_lt_of_le (T.wide m h4 h3) (T.mono _ (Nat.zero_le _) (by omega))
end Go.Am

/- That a region whose order is open keeps to the idealised one, in whatever order: the whole. Generic: over any program. -/
namespace Go.Am
set_option linter.unusedVariables false
open Go.RowKit
variable {S : AStat} {call : CallF} {lo n0 : Nat} {ops : Array Oper} {B : List Nat} {reads : List (Nat × Nat)} {touches : List (Nat × Option (List Nat))} {ρs : Nat → List AVal} {Hs : Nat → Heap}
variable {c0 c : Cx} {H0 : Heap}
theorem quiet_eff {S : AStat} {ρ : List AVal} {H : Heap} {op : Op} (h : isEffB op = true) : quietA S ρ H op = none ∧ newA S ρ op = none := by
 cases op <;> simp only [isEffB] at h <;> first
  | (cases h; done)
  | exact ⟨rfl,rfl⟩
  | (rename_i cl
     obtain ⟨callee,args,ts⟩ := cl
     cases callee with
     | value f => exact ⟨rfl,rfl⟩
     | invoke r m => exact ⟨rfl,rfl⟩
     | builtin b => cases b <;> first | exact ⟨rfl,rfl⟩ | (simp at h; done))
theorem reads_dom {S : AStat} {c : Cx} {ρ : List AVal} {a : Act} {op : Op} {b : Nat} (hev : EvOn S c ρ a op.operands) (h : readsA S ρ op = some b) : c.ι b ≠ none := by
 have key : ∀ x ∈ op.operands,blkOf (evalA S ρ x) = some b → c.ι b ≠ none := by
  intro x hx hb
  have := hev x hx
  cases he : evalA S ρ x <;> rw [he] at hb this <;> simp only [blkOf,Option.some.injEq] at hb <;> first | (cases hb; done) | skip
  ·subst hb
   simp only [V] at this
   obtain ⟨B,base,h1,_⟩ := this
   rw [h1]; simp
  ·subst hb
   simp only [V] at this
   obtain ⟨B,h1,_⟩ := this
   rw [h1]; simp
 unfold readsA at h
 split at h
 ·exact key _ (by simp [Op.operands]) h
 ·exact key _ (by simp [Op.operands]) h
 ·exact key _ (by simp [Op.operands]) h
 ·rename_i s d x
  have := hev x (by simp [Op.operands])
  cases he : evalA S ρ x <;> rw [he] at h this <;> simp only [slBlk,Option.some.injEq] at h <;> first | (cases h; done) | skip
  subst h
  simp only [V] at this
  obtain ⟨B,base,k,o,h1,_⟩ := this
  rw [h1]; simp
 ·split at h
  ·rename_i x hx
   split at h
   ·rename_i b' e
    refine key x (by simp [Op.operands,Call.operands]; exact Array.mem_of_getElem? hx) ?_
    rw [e]
    exact h
   ·cases h
  ·cases h
 ·cases h
theorem draw_step (hS : StatOk S) (hC : CallOk S call) (T : Tra S call lo n0 ops B reads touches ρs Hs) (hlo : lo ≤ n0) {D : Nat → Bool} {tE : Nat} {a : Act} (I : Inv S lo n0 ops ρs Hs c0 H0 D tE c a) {i : Nat} {o : Oper} (hr : Ready ops D i o)
 {K : Act → World → Prop} {Q : Exit → Act → World → Prop} (hK : ∀ tE' c' a',Inv S lo n0 ops ρs Hs c0 H0 (fun x => D x || x == i) tE' c' a' → K a' c'.w) : wpOp S.P ops Q i K a c.w := by
 have hev := I.evOn T hr
 unfold wpOp
 rw [hr.op]
 simp only
 cases T.step i o hr.op with
 | skip hg hρ hH =>
  have hw := I.guard T hr hg
  rw [if_neg (by rw [hw]; simp)]
  cases he : effAt ops i with
  | true => exact hK _ _ _ (I.skipEff T hr he hH (undef_V c) hρ hlo)
  | false =>
   have hn : newW S ops ρs i = false := by simp [newW,hr.op,hg]
   exact hK _ _ _ (I.calm T hr he hn (undef_V c) hρ)
 | new hg hnb blk mk hnew hd hρ hH =>
  have hw := I.guard T hr hg
  rw [if_pos hw]
  have hn : newW S ops ρs i = true := by simp [newW,hr.op,hg,hnb]
  obtain ⟨obj,u,h1,h2⟩ := (newA_sim o hev hnew).run
  refine .inl ?_
  unfold Oper.wp
  rw [h1]
  exact hK _ _ _ (I.newStep T hr hn hd hH hρ h2)
 | eff hg hnb heb v H1 heff hl hρ hH ht =>
  have hw := I.guard T hr hg
  rw [if_pos hw]
  have he : effAt ops i = true := by simp [effAt,hr.op,heb]
  obtain ⟨hR,hfin⟩ := I.effStep T hr he hlo
  refine .inl (opA_sim hS hC (lo := lo) hR I.glob o hev (v := v) (H' := H1) ?_ ?_)
  ·unfold opA
   obtain ⟨q1,q2⟩ := quiet_eff (S := S) (ρ := ρs i) (H := hide (Hs i) (hidden ops B n0 i)) heb
   rw [q1,q2]
   exact heff
  ·intro c' u g1 g2 g3 g4
   exact hK _ _ _ (hfin v u H1 c' hH hρ g1 g2 g3 g4)
 | quiet hg hnb heb v hq hρ hH hrd =>
  have hw := I.guard T hr hg
  rw [if_pos hw]
  have he : effAt ops i = false := by simp [effAt,hr.op,heb]
  have hn : newW S ops ρs i = false := by simp [newW,hr.op,hnb]
  have hq' : quietA S (ρs i) (HD S ops ρs Hs n0 D tE) o.op = some v := by
   rw [quiet_local (H := Hs i)]
   ·exact hq
   ·intro b hb
    obtain ⟨blk,hlive⟩ := quiet_live hq hb
    rw [I.seen T hr he hn (hrd b hb) hlive (reads_dom hev hb),hlive]
  obtain ⟨u,h1,h2⟩ := quietA_sim I.rel o hev hq'
  refine .inl ?_
  unfold Oper.wp
  rw [h1]
  exact hK _ _ _ (I.calm T hr he hn h2 hρ)
theorem count_set : ∀ (l : List Bool) (i : Nat),l[i]? = some false → ((l.set i true).filter id).length = (l.filter id).length + 1
 | [],i,h => by simp at h
 | b :: l,0,h => by
  simp at h
  subst h
  simp
 | b :: l,i + 1,h => by
  simp only [List.getElem?_cons_succ] at h
  simp only [List.set_cons_succ,List.filter_cons]
  split
  ·simp only [List.length_cons,count_set l i h]
  ·exact count_set l i h
theorem mem_ready {listed : Array Bool} {i : Nat} : i ∈ Region.ready .any ops listed ↔ ∃ o,ops[i]? = some o ∧ listed.getD i true = false ∧ ∀ e ∈ o.after.toList,Region.binds .any e = true → listed.getD e.on false = true := by
 unfold Region.ready
 rw [List.mem_filter,List.mem_range]
 constructor
 ·rintro ⟨h1,h2⟩
  obtain ⟨o,ho⟩ := op_at h1
  rw [ho] at h2
  simp only [Bool.and_eq_true,Bool.not_eq_true',Option.map_some,Option.getD_some,← Array.all_toList,List.all_eq_true,Bool.or_eq_true] at h2
  refine ⟨o,ho,h2.1,fun e he hb => ?_⟩
  rcases h2.2 e he with h | h
  ·rw [hb] at h; cases h
  ·exact h
 ·rintro ⟨o,ho,h1,h2⟩
  refine ⟨(Array.getElem?_eq_some_iff.1 ho).1, ?_⟩
  rw [ho]
  simp only [Bool.and_eq_true,Bool.not_eq_true',Option.map_some,Option.getD_some,← Array.all_toList,List.all_eq_true,Bool.or_eq_true]
  refine ⟨h1,fun e he => ?_⟩
  cases hb : Region.binds .any e with
  | false => exact .inl rfl
  | true => exact .inr (h2 e he hb)
theorem all_done (T : Tra S call lo n0 ops B reads touches ρs Hs) {listed : Array Bool} (hs : listed.size = ops.size) (h : Region.ready .any ops listed = []) : ∀ i,i < ops.size → listed.getD i false = true := by
 intro i
 induction i using Nat.strongRecOn with
 | _ i ih =>
  intro hi
  cases hl : listed.getD i false with
  | true => rfl
  | false =>
   obtain ⟨o,ho⟩ := op_at hi
   have : i ∈ Region.ready .any ops listed := by
    refine mem_ready.2 ⟨o,ho, ?_,fun e he hb => ?_⟩
    ·rw [Array.getD_eq_getD_getElem?] at hl ⊢
     rw [Array.getElem?_eq_getElem (by omega)] at hl ⊢
     exact hl
    ·have hlt := T.pair.edge i o ho e he hb
     exact ih e.on hlt (by omega)
   rw [h] at this
   cases this
theorem Vs_of_get {c : Cx} : ∀ {as : List AVal} {vs : List Value},as.length = vs.length → (∀ s,V c (as.getD s undefA) (vs.getD s undef)) → Vs c as vs
 | [],[],_,_ => by simp [Vs]
 | [],_ :: _,h,_ => by simp at h
 | _ :: _,[],h,_ => by simp at h
 | a :: as,v :: vs,h,hv => by
  simp only [Vs]
  exact ⟨v,vs,rfl,by simpa using hv 0,Vs_of_get (by simpa using h) fun s => by simpa using hv (s + 1)⟩
theorem Inv.done (T : Tra S call lo n0 ops B reads touches ρs Hs) {D : Nat → Bool} {tE : Nat} {a : Act} (I : Inv S lo n0 ops ρs Hs c0 H0 D tE c a) (hall : ∀ i,i < ops.size → D i = true) (hlo : lo ≤ n0) :
 Post lo c0 H0 .normal (ρs ops.size) (Hs ops.size) .normal a c.w := by
 have hno : ∀ k,k < ops.size → effAt ops k = true → k < tE := fun k hk he => I.eff k (hall k hk) he
 obtain ⟨hlen,hst⟩ := I.still T (Nat.le_refl _) I.tEn hno
 have hnlt : ∀ b,isN S ops ρs n0 b = true → b - n0 < ops.size := fun b hN => (newW_new (isN_spec hN).2).2
 have htEn := I.tEn
 have eqt : ∀ b,b < (Hs tE).length → (Hs (tm S ops ρs n0 tE b))[b]? = (Hs ops.size)[b]? := by
  intro b hb
  refine (hst b _ (by unfold tm; split <;> omega) ?_ hb ?_).symm
  ·unfold tm
   split
   ·rename_i hN; have := hnlt b hN; omega
   ·exact I.tEn
  ·intro hN
   unfold tm
   rw [if_pos hN]
   omega
 have liv : ∀ (b : Nat) (blk : ABlk),(Hs ops.size)[b]? = some (some blk) ↔ (HD S ops ρs Hs n0 D tE)[b]? = some (some blk) := by
  intro b blk
  rw [HD_live]
  constructor
  ·intro h
   have hb : b < (Hs tE).length := by have := (List.getElem?_eq_some_iff.1 h).1; omega
   exact ⟨hb,fun hN => hall _ (hnlt b hN),by rw [eqt b hb]; exact h⟩
  ·rintro ⟨h1,_,h3⟩
   rw [← eqt b h1]; exact h3
 have hl2 : (HD S ops ρs Hs n0 D tE).length = (Hs ops.size).length := by rw [HD_length,hlen]
 refine ⟨rfl,I.defers,c,rfl,I.rel.sub (fun b blk h => (liv b blk).1 h) (by omega),I.tr.trans (Tr.sub fun b blk h => (liv b blk).1 h), ?_, ?_⟩
 ·exact ⟨fun b blk hb h => ⟨(liv b blk).2 (I.low.low b blk hb h).1,(I.low.low b blk hb h).2⟩,I.low.dom,by have := I.low.len; omega⟩
 ·refine Vs_of_get ?_ ?_
  ·have h1 := T.len _ (Nat.le_refl _)
   have h2 := I.size
   have h3 : a.tmps.toList.length = a.tmps.size := Array.length_toList
   omega
  ·intro s
   obtain ⟨t,h1,h2,h3,h4⟩ := I.slots s
   have := T.slot s (ops.size - t) t (by omega) (fun j hj1 hj2 hd => by
    have := h3 j (hall j (by omega)) hd
    omega)
   rw [show t + (ops.size - t) = ops.size by omega] at this
   rw [this]
   simpa [Array.getD_eq_getD_getElem?,List.getD_eq_getElem?_getD] using h4
theorem draw_any (hS : StatOk S) (hC : CallOk S call) (T : Tra S call lo n0 ops B reads touches ρs Hs) (hlo : lo ≤ n0) {Q : Exit → Act → World → Prop} (hQ : ∀ e a w,Post lo c0 H0 .normal (ρs ops.size) (Hs ops.size) e a w → Q e a w) :
 ∀ (fuel : Nat) (listed : Array Bool) (c : Cx) (a : Act) (tE : Nat),listed.size = ops.size → (listed.toList.filter id).length + fuel = ops.size → Inv S lo n0 ops ρs Hs c0 H0 (fun i => listed.getD i false) tE c a →
  wpAny S.P .any ops Q fuel listed a c.w
 | 0,listed,c,a,tE,hs,hc,I => by
  have hall : ∀ i,i < ops.size → listed.getD i false = true := by
   have : listed.toList.filter id = listed.toList := by
    refine (List.filter_sublist).eq_of_length ?_
    have h3 : listed.toList.length = listed.size := Array.length_toList
    omega
   intro i hi
   rw [List.filter_eq_self] at this
   have hm : listed[i] ∈ listed.toList := by simp
   have := this _ hm
   rw [Array.getD_eq_getD_getElem?,Array.getElem?_eq_getElem (by omega)]
   simpa using this
  refine ⟨?_,hQ _ _ _ (I.done T hall hlo)⟩
  cases hrd : Region.ready .any ops listed with
  | nil => rfl
  | cons i rest =>
   have : i ∈ Region.ready .any ops listed := by rw [hrd]; exact List.mem_cons_self ..
   obtain ⟨o,ho,h1,_⟩ := mem_ready.1 this
   have hi := (Array.getElem?_eq_some_iff.1 ho).1
   have := hall i hi
   rw [Array.getD_eq_getD_getElem?,Array.getElem?_eq_getElem (by omega)] at this h1
   simp only [Option.getD_some] at this h1
   rw [h1] at this
   cases this
 | fuel + 1,listed,c,a,tE,hs,hc,I => by
  refine ⟨fun hrd => hQ _ _ _ (I.done T (all_done T hs hrd) hlo), ?_⟩
  intro i hi
  obtain ⟨o,ho,h1,h2⟩ := mem_ready.1 hi
  have hin := (Array.getElem?_eq_some_iff.1 ho).1
  have hlf : listed[i]? = some false := by
   rw [Array.getD_eq_getD_getElem?,Array.getElem?_eq_getElem (by omega)] at h1
   simp only [Option.getD_some] at h1
   rw [Array.getElem?_eq_getElem (by omega),h1]
  have hr : Ready ops (fun i => listed.getD i false) i o := ⟨ho,by simp [Array.getD_eq_getD_getElem?,hlf],h2⟩
  refine draw_step hS hC T hlo I hr ?_
  intro tE' c' a' I'
  refine draw_any hS hC T hlo hQ fuel _ c' a' tE' (by simp [hs]) ?_ ?_
  ·rw [Array.toList_setIfInBounds,count_set _ _ (by simpa using hlf)]
   omega
  ·have : (fun x => (listed.setIfInBounds i true).getD x false) = (fun x => listed.getD x false || x == i) := by
    funext x
    simp only [Array.getD_eq_getD_getElem?,Array.getElem?_setIfInBounds]
    by_cases hx : i = x
    ·subst hx
     rw [if_pos rfl,if_pos (by omega)]
     simp
    ·rw [if_neg hx]
     have : (x == i) = false := by simp; omega
     simp [this]
   rw [this]
   exact I'
theorem drawA_sim (hS : StatOk S) (hC : CallOk S call) (hst : CallStill S call) {id : Nat} {ops : Array Oper} {ρ ρ' : List AVal} {H H' : Heap} {a : Act} (h : drawA S call lo ops ρ H = some (ρ',H')) (hR : Rel c H) (hG : GlobOk S c) (hρ : Vs c ρ a.tmps.toList) (hd : a.defers = []) :
 (Code.region id ops true).wp S.P (Post lo c H .normal ρ' H') a c.w := by
 unfold drawA at h
 simp only at h
 split at h
 case isFalse => cases h
 rename_i hok
 simp only [Bool.and_eq_true,decide_eq_true_eq] at hok
 obtain ⟨hok,hlo⟩ := hok
 split at h
 ·cases h
 ·rename_i r hgo
  split at h
  case isFalse => cases h
  rename_i hap
  simp only [Option.some.injEq,Prod.mk.injEq] at h
  obtain ⟨rfl,rfl⟩ := h
  obtain ⟨ρs,Hs,e1,e2,e3,e4,hstep⟩ := drawGo_trace ops.toList 0 _ _ r hgo (fun j => by simp) (by simp)
  have hpair := regionOk_spec hok
  have hlen0 : H.length ≤ (Hs 0).length := by rw [e2]; split <;> simp
  have T : Tra S call lo H.length ops (befs ops.toList []) r.reads r.touches ρs Hs := by
   refine ⟨fun j o ho => hstep j o (Nat.zero_le _) ho,hpair,befs_ok ops,fun i k hk => befs_lt hpair.edge ops.toList [] (fun j => by simp) (fun i k h => by simp at h) i k hk,hap,hst, ?_⟩
   intro m hm hn
   have hany : ops.any (fun o => isNewB o.op) = true := by
    rw [Array.any_eq_true]
    refine ⟨m,hm, ?_⟩
    simpa [newAt,hm] using hn
   rw [e2,if_pos hany]
   simp
   exact hm
  -- nothing that lives at first is new
  have hliv0 : ∀ (b : Nat) (blk : ABlk),(Hs 0)[b]? = some (some blk) ↔ H[b]? = some (some blk) := by
   intro b blk
   rw [e2]
   split
   ·rcases Nat.lt_or_ge b H.length with h1 | h1
    ·rw [List.getElem?_append_left h1]
    ·rw [List.getElem?_append_right h1,List.getElem?_eq_none h1,List.getElem?_replicate]
     split <;> simp
   ·exact Iff.rfl
  have hfr : ∀ m,c.ι (H.length + m) = none := fun m => hR.fresh _ (by omega)
  let c1 : Cx := { c with w := c.w.drew }
  have hdr := hR.drew
  have hliv : ∀ (b : Nat) (blk : ABlk),(HD S ops ρs Hs H.length (fun _ => false) 0)[b]? = some (some blk) ↔ H[b]? = some (some blk) := by
   intro b blk
   rw [HD_live]
   constructor
   ·rintro ⟨_,h2,h3⟩
    have hN : isN S ops ρs H.length b = false := by
     cases h : isN S ops ρs H.length b with
     | false => rfl
     | true => have := h2 h; cases this
    have : tm S ops ρs H.length 0 b = 0 := by simp [tm,hN]
    rw [this] at h3
    exact (hliv0 b blk).1 h3
   ·intro hb
    have hbl : b < H.length := (List.getElem?_eq_some_iff.1 hb).1
    have hN : isN S ops ρs H.length b = false := by simp [isN]; omega
    have : tm S ops ρs H.length 0 b = 0 := by simp [tm,hN]
    rw [this]
    exact ⟨by omega,fun h => (by rw [hN] at h; cases h),(hliv0 b blk).2 hb⟩
  have hHDl : (HD S ops ρs Hs H.length (fun _ => false) 0).length = (Hs 0).length := HD_length _ _
  have I : Inv S lo H.length ops ρs Hs c H (fun _ => false) 0 c1 a := by
   refine ⟨Nat.zero_le _,(fun j hj => by cases hj),.inl rfl, ?_, ?_, ?_, ?_, ?_,fun m _ _ => hfr m,hd,(fun i o _ hi => by cases hi),(fun i hi => by cases hi),hG.ext hdr.2.ext,Nat.le_refl _⟩
   ·intro s
    refine ⟨0,Nat.zero_le _,.inl rfl,(fun j hj => by cases hj), ?_⟩
    rw [e1]
    have := Vs_getD (Vs_ext hdr.2.ext _ _ hρ) s
    simpa [Array.getD_eq_getD_getElem?,List.getD_eq_getElem?_getD] using this
   ·rw [e1]
    have := Vs_length hρ
    simpa using this.symm
   ·exact hdr.1.sub (fun b blk h => (hliv b blk).1 h) (by omega)
   ·exact hdr.2.trans (Tr.sub fun b blk h => (hliv b blk).1 h)
   ·exact ⟨fun b blk _ h => ⟨(hliv b blk).2 h,fun _ _ _ => rfl⟩,fun _ _ h => h,by omega⟩
  refine wp_region_any hS.mixed ?_
  have hfun : (fun i => (Array.replicate ops.size false).getD i false) = (fun _ => false) := by
   funext i
   simp only [Array.getD_eq_getD_getElem?,Array.getElem?_replicate]
   split <;> rfl
  refine draw_any (c0 := c) (H0 := H) hS hC T hlo (fun e a w hp => ?_) ops.size _ c1 a 0 (by simp) (by simp) (by rw [hfun]; exact I)
  rw [e3,e4] at hp
  exact hp
end Go.Am

/- That the model's run keeps to the idealised one: code and calls. Generic: over any program. -/
namespace Go.Am
open Go.RowKit
theorem opsA_sim {S : AStat} (hS : StatOk S) {call : CallF} (hC : CallOk S call) {lo : Nat} {ops : Array Oper} {Q : Exit → Act → World → Prop} :
 ∀ (l : List Oper) {ρ : List AVal} {H : Heap} {ρ' : List AVal} {H' : Heap} {c : Cx} {a : Act},opsA S call lo ops.toList l ρ H = some (ρ',H') → Rel c H → GlobOk S c → Vs c ρ a.tmps.toList → a.defers = [] →
  (∀ e a' w',Post lo c H .normal ρ' H' e a' w' → Q e a' w') → wpList S.P ops Q l a c.w
 | [],ρ,H,ρ',H',c,a,h,hR,hG,hρ,hd,hQ => by
  simp only [opsA,Option.some.injEq,Prod.mk.injEq] at h
  obtain ⟨rfl,rfl⟩ := h
  exact hQ _ _ _ ⟨rfl,hd,c,rfl,hR,Tr.refl _ _,Low.refl _ _ _,hρ⟩
 | o :: l,ρ,H,ρ',H',c,a,h,hR,hG,hρ,hd,hQ => by
  simp only [opsA] at h
  split at h
  ·cases h
  ·rename_i hg
   have hw := guardA_sim hg hρ
   simp only [wpList]
   rw [if_neg (by rw [hw]; simp)]
   exact opsA_sim hS hC l h hR hG (putA_Vs hρ o.dst (undef_V c)) (by rw [put_defers]; exact hd) hQ
  ·rename_i hg
   have hw := guardA_sim hg hρ
   simp only [wpList]
   rw [if_pos hw]
   split at h
   ·cases h
   ·rename_i v H1 hop
    refine .inl (opA_sim hS hC hR hG o (fun x _ => evalA_V hG hρ x) hop ?_)
    intro c' u h1 h2 h3 h4
    refine opsA_sim hS hC l h h1 (hG.ext h2.ext) (putA_Vs (Vs_ext h2.ext _ _ hρ) o.dst h4) (by rw [put_defers]; exact hd) ?_
    intro e a' w' hp
    exact hQ e a' w' (hp.trans h2 h3)
def Cx.pop (c : Cx) (H : Heap) (n0 n : Nat) : Cx :=
 { c with
  ι := fun b => if b < n then c.ι b else none
  I := fun B => c.I B ∨ ∃ b blk base,n0 ≤ b ∧ H[b]? = some (some blk) ∧ c.ι b = some (B,base) }
theorem pop_pure (c : Cx) (H : Heap) (n0 n : Nat) : (c.pop H n0 n).pure = c.pop H n0 0 := by
 simp [Cx.pop,Cx.pure]
theorem pure_pop (c : Cx) (H : Heap) (n0 n : Nat) : Ext c.pure (c.pop H n0 n).pure :=
 ⟨(fun _ _ h => by cases h),rfl,(fun _ h => .inl h),fun _ _ => rfl,fun _ _ _ h => h⟩
theorem frzs_sim {f : AVal → Option AVal} {c c' : Cx} (hf : ∀ a b,f a = some b → ∀ v,V c a v → V c' b v) : ∀ (as : List AVal) {bs : List AVal},frzs f as = some bs → ∀ vs,Vs c as vs → Vs c' bs vs
 | [],bs,h,vs,hv => by
  simp only [frzs,Option.some.injEq] at h
  subst h
  simpa [Vs] using hv
 | a :: as,bs,h,vs,hv => by
  simp only [frzs] at h
  split at h
  ·cases h
  ·rename_i b hb
   split at h
   ·cases h
   ·rename_i bs' hbs
    simp only [Option.some.injEq] at h
    subst h
    simp only [Vs] at hv ⊢
    obtain ⟨v,us,rfl,h1,h2⟩ := hv
    exact ⟨v,us,rfl,hf a b hb v h1,frzs_sim hf as hbs us h2⟩
theorem frzss_sim {f : AVal → Option AVal} {c c' : Cx} (hf : ∀ a b,f a = some b → ∀ v,V c a v → V c' b v) (sz : Nat) : ∀ (rs : List (List AVal)) {bs : List (List AVal)},frzss f rs = some bs → bs.length = rs.length ∧ ∀ vs,Vss c sz rs vs → Vss c' sz bs vs
 | [],bs,h => by
  simp only [frzss,Option.some.injEq] at h
  subst h
  exact ⟨rfl,fun vs hv => by simpa [Vss] using hv⟩
 | a :: as,bs,h => by
  simp only [frzss] at h
  split at h
  ·cases h
  ·rename_i b hb
   split at h
   ·cases h
   ·rename_i bs' hbs
    simp only [Option.some.injEq] at h
    subst h
    obtain ⟨h3,h4⟩ := frzss_sim hf sz as hbs
    refine ⟨by simp [h3],fun vs hv => ?_⟩
    simp only [Vss] at hv ⊢
    obtain ⟨us,ws,rfl,hl,h1,h2⟩ := hv
    exact ⟨us,ws,rfl,hl,frzs_sim hf a hb us h1,h4 ws h2⟩
def topN (n0 : Nat) (top : Bool) : Nat := if top then n0 else 0
theorem frz_sim {c : Cx} {H : Heap} (hR : Rel c H) (n0 : Nat) : ∀ (k : Nat) (top : Bool) (a : AVal) {b : AVal},frz n0 H top k a = some b → ∀ v,V c a v → V (c.pop H n0 (topN n0 top)) b v
 | 0,_,_,_,h,_,_ => by cases h
 | k + 1,top,a,b,h,v,hv => by
  have ih := fun a b h v hv => frz_sim hR n0 k top a (b := b) h v hv
  have ih0 := fun a b h v hv => frz_sim hR n0 k false a (b := b) h v hv
  have pure0 : c.pop H n0 (topN n0 false) = (c.pop H n0 (topN n0 top)).pure := (pop_pure c H n0 (topN n0 top)).symm
  rw [pure0] at ih0
  have old : ∀ x B base,x < n0 → top = true → c.ι x = some (B,base) → (c.pop H n0 (topN n0 top)).ι x = some (B,base) := by
   intro x B base h1 h2 h3
   subst h2
   simp only [Cx.pop,topN]
   rw [if_pos (by simpa using h1)]
   exact h3
  unfold frz at h
  cases a <;> simp only at h
  case agg cs =>
   rw [Option.map_eq_some_iff] at h
   obtain ⟨bs,h1,rfl⟩ := h
   simp only [V] at hv ⊢
   obtain ⟨vs,rfl,h2⟩ := hv
   exact ⟨vs,rfl,frzs_sim ih cs h1 vs h2⟩
  case tup cs =>
   rw [Option.map_eq_some_iff] at h
   obtain ⟨bs,h1,rfl⟩ := h
   simp only [V] at hv ⊢
   obtain ⟨vs,rfl,h2⟩ := hv
   exact ⟨vs,rfl,frzs_sim ih cs h1 vs h2⟩
  case iface t x =>
   rw [Option.map_eq_some_iff] at h
   obtain ⟨y,h1,rfl⟩ := h
   simp only [V] at hv ⊢
   obtain ⟨u,rfl,h2⟩ := hv
   exact ⟨u,rfl,ih x y h1 u h2⟩
  case fn f x y =>
   split at h
   ·rename_i x' y' h1 h2
    simp only [Option.some.injEq] at h
    subst h
    simp only [V] at hv ⊢
    obtain ⟨vs,us,rfl,h3,h4⟩ := hv
    exact ⟨vs,us,rfl,frzs_sim ih x h1 vs h3,frzs_sim ih y h2 us h4⟩
   ·cases h
  case ptr x off =>
   simp only [V] at hv
   obtain ⟨B,base,hi,rfl⟩ := hv
   split at h
   ·rename_i hlt
    split at h
    ·rename_i ht
     simp only [Option.some.injEq] at h
     subst h
     simp only [V]
     exact ⟨B,base,old x B base hlt ht hi,rfl⟩
    ·cases h
   ·rename_i hlt
    split at h
    ·rename_i cs hb
     rw [Option.map_eq_some_iff] at h
     obtain ⟨bs,h1,rfl⟩ := h
     obtain ⟨B0,base0,h3,_,_,_,_,vs,ha,hvs⟩ := hR.blk x _ hb
     rw [hi] at h3
     simp only [Option.some.injEq,Prod.mk.injEq] at h3
     obtain ⟨rfl,rfl⟩ := h3
     simp only [V]
     exact ⟨B,base + off,vs.drop off,rfl,.inr ⟨x,_,base,by omega,hb,hi⟩,At_drop off ha,frzs_sim ih0 _ h1 _ (Vs_drop off hvs)⟩
    ·cases h
  case sl sz x off len cap ex =>
   simp only [V] at hv
   obtain ⟨B,base,kk,o,hi,rfl,ho,g1,g2,g3,g4⟩ := hv
   split at h
   ·rename_i hlt
    split at h
    ·rename_i ht
     simp only [Option.some.injEq] at h
     subst h
     simp only [V]
     exact ⟨B,base,kk,o,old x B base hlt ht hi,rfl,ho,g1,g2,g3,g4⟩
    ·cases h
   ·rename_i hlt
    split at h
    ·rename_i cs hb
     split at h
     ·rename_i hle
      rw [Option.map_eq_some_iff] at h
      obtain ⟨bs,h1,rfl⟩ := h
      obtain ⟨B0,base0,h3,_,_,_,_,vs,ha,hvs⟩ := hR.blk x _ hb
      rw [hi] at h3
      simp only [Option.some.injEq,Prod.mk.injEq] at h3
      obtain ⟨rfl,rfl⟩ := h3
      have hl := Vs_length hvs
      have hch := chunk_Vss (sz := sz) len (Vs_drop off hvs) (by simp; omega)
      obtain ⟨h5,h6⟩ := frzss_sim ih0 sz _ h1
      rw [chunk_length] at h5
      have hIx : (c.pop H n0 (topN n0 top)).I B := .inr ⟨x,_,base,by omega,hb,hi⟩
      simp only [V,h5]
      by_cases hk : 0 < kk
      ·have ho' := ho hk
       subst ho'
       refine ⟨⟨B,base + off,none⟩,kk,_,rfl,by omega, ?_,.inr ⟨rfl,hIx,At_take _ (At_drop off ha)⟩,h6 _ hch⟩
       intro he
       simp only [Bool.and_eq_true,beq_iff_eq] at he
       have := g3 he.1
       omega
      ·have hl0 : len = 0 := by omega
       subst hl0
       have hbs : bs = [] := List.eq_nil_of_length_eq_zero h5
       subst hbs
       exact ⟨⟨B,o,none⟩,kk,[],rfl,by omega,(fun _ => by omega),.inl rfl,by simp [Vss]⟩
     ·cases h
    ·cases h
  case mapr x =>
   split at h
   ·rename_i hlt
    simp only [Option.some.injEq] at h
    subst h
    simp only [V] at hv ⊢
    obtain ⟨B,h1,rfl⟩ := hv
    exact ⟨B,old x B 0 hlt.1 hlt.2 h1,rfl⟩
   ·cases h
  case ipt cs =>
   simp only [Option.some.injEq] at h
   subst h
   simp only [V] at hv ⊢
   obtain ⟨B,off,vs,rfl,hI,ha,hvs⟩ := hv
   exact ⟨B,off,vs,rfl,.inl hI,ha,Vs_ext (pure_pop c H n0 _) _ _ hvs⟩
  case eptr id cs =>
   simp only [Option.some.injEq] at h
   subst h
   simp only [V] at hv ⊢
   obtain ⟨B,o,vs,hn,e1,rfl,hI,ha,hvs,hc⟩ := hv
   exact ⟨B,o,vs,hn,e1,rfl,.inl hI,ha,Vs_ext (pure_pop c H n0 _) _ _ hvs,hc⟩
  case list sz rows ex =>
   simp only [Option.some.injEq] at h
   subst h
   simp only [V] at hv ⊢
   obtain ⟨a,cap,vs,rfl,h1,h2,hm,hvs⟩ := hv
   exact ⟨a,cap,vs,rfl,h1,h2,hm.imp_right fun h => ⟨h.1,.inl h.2.1,h.2.2⟩,Vss_ext (pure_pop c H n0 _) _ _ _ hvs⟩
  all_goals (simp only [Option.some.injEq] at h; subst h)
  all_goals (simp only [V] at hv ⊢)
  all_goals exact hv
theorem pop_sim {lo : Nat} {c c' : Cx} {H H' : Heap} (hR : Rel c H) (hR' : Rel c' H') (hT : Tr c H c' H') (hL : Low H.length c H c' H') :
 Rel (c'.pop H' H.length H.length) H ∧ Tr c H (c'.pop H' H.length H.length) H ∧ Low lo c H (c'.pop H' H.length H.length) H := by
 have hlen : ∀ (b : Nat) (blk : ABlk),H[b]? = some (some blk) → b < H.length := by
  intro b blk h
  rcases Nat.lt_or_ge b H.length with h1 | h1
  ·exact h1
  ·rw [List.getElem?_eq_none h1] at h; cases h
 have hι : ∀ b x,c.ι b = some x → (c'.pop H' H.length H.length).ι b = some x := by
  intro b x h
  have : b < H.length := by
   rcases Nat.lt_or_ge b H.length with h1 | h1
   ·exact h1
   ·rw [hR.fresh b h1] at h; cases h
  simp only [Cx.pop]
  rw [if_pos this]
  exact hT.ext.ι b x h
 have hE : Ext c (c'.pop H' H.length H.length) := ⟨hι,hT.ext.θ,fun B hB => .inl (hT.ext.I B hB),hT.ext.kept,hT.ext.shape⟩
 have hιback : ∀ b blk,H[b]? = some (some blk) → ∀ x,(c'.pop H' H.length H.length).ι b = some x → c.ι b = some x := by
  intro b blk hb x h
  obtain ⟨B,base,h1,_⟩ := hR.blk b blk hb
  rw [hι b _ h1] at h
  rw [h1,h]
 refine ⟨⟨?_, ?_, ?_, ?_⟩,⟨hE,hT.size,hT.frame, ?_, ?_,hT.os,hT.tape,hT.output⟩,⟨?_, ?_,Nat.le_refl _⟩⟩
 ·intro b blk hb
  obtain ⟨B,base,h1,h2,h3,h4⟩ := hR.blk b blk hb
  obtain ⟨h5,h6⟩ := hL.low b blk (hlen b blk hb) hb
  refine ⟨B,base,hι b _ h1, ?_,Nat.lt_of_lt_of_le h3 hT.size,h4.ext hE (h6 B base h1)⟩
  rintro (hi | ⟨x,y,base',hx,hy,hxi⟩)
  ·obtain ⟨B2,base2,h7,h8,_⟩ := hR'.blk b blk h5
   rw [hT.ext.ι b _ h1] at h7
   simp only [Option.some.injEq,Prod.mk.injEq] at h7
   obtain ⟨rfl,rfl⟩ := h7
   exact h8 hi
  ·have := hR'.inj b x blk y B base base' h5 hy (hT.ext.ι b _ h1) hxi
   have := hlen b blk hb
   omega
 ·intro b b' blk blk' B base base' h1 h2 h3 h4
  exact hR.inj b b' blk blk' B base base' h1 h2 (hιback b blk h1 _ h3) (hιback b' blk' h2 _ h4)
 ·intro b hb
  simp only [Cx.pop]
  rw [if_neg (by omega)]
 ·intro B hB
  rcases hB with hB | ⟨b,blk,base,_,h1,h2⟩
  ·exact hR'.lt B hB
  ·obtain ⟨B',base',h3,_,h4,_⟩ := hR'.blk b blk h1
   rw [h2] at h3
   simp only [Option.some.injEq,Prod.mk.injEq] at h3
   obtain ⟨rfl,rfl⟩ := h3
   exact h4
 ·rintro B _ ⟨b,blk,base,h1,h2⟩
  exact ⟨b,blk,base,h1,hιback b blk h1 _ h2⟩
 ·rintro B hB (hi | ⟨b,blk,base,_,h1,h2⟩)
  ·exact hT.imm B hB hi
  ·exact .inr (hT.img B hB ⟨b,blk,base,h1,h2⟩)
 ·intro b blk _ hb
  obtain ⟨_,h6⟩ := hL.low b blk (hlen b blk hb) hb
  exact ⟨hb,h6⟩
 ·intro b hb h
  simp only [Cx.pop]
  rw [if_pos hb]
  exact hL.dom b hb h
theorem resultA_sim {S : AStat} {c : Cx} {H : Heap} {ρ : List AVal} {tmps : Array Value} (hR : Rel c H) (hρ : Vs c ρ tmps.toList) : ∀ (r : ResultVar) {v : AVal},resultA S ρ H r = some v →
 ∃ u,(match r with | .tmp t => pure (tmps.getD t undef) | .cell a t => do loadVar t (← asAddr (tmps.getD a undef)) : Sem Value).run S.P c.w = .ok u c.w ∧ V c v u := by
 have hget : ∀ t,V c (ρ.getD t undefA) (tmps.getD t undef) := by
  intro t
  have := Vs_getD hρ t
  simpa [Array.getD_eq_getD_getElem?,List.getD] using this
 intro r v h
 cases r with
 | tmp t =>
  simp only [resultA,Option.some.injEq] at h
  subst h
  exact ⟨_,rfl,hget t⟩
 | cell a t =>
  simp only [resultA] at h
  have hl := h
  unfold loadA at h
  rw [Option.bind_eq_some_iff] at h
  obtain ⟨cs,h1,h2⟩ := h
  obtain ⟨B,o,vs,e,ha,hvs⟩ := atA_sim hR h1 (hget a)
  obtain ⟨u,h3,h4⟩ := run_loadVar (P := S.P) h2 hvs ha
  exact ⟨u,by simp only [e,asAddr,Sem.run_bind,Sem.run_pure,Result.andThen_ok,h3],h4⟩
theorem resultsA_sim {S : AStat} {c : Cx} {H : Heap} {ρ : List AVal} {tmps : Array Value} (hR : Rel c H) (hρ : Vs c ρ tmps.toList) : ∀ (rs : List ResultVar) {vs : List AVal},resultsA S ρ H rs = some vs →
 ∃ us,(rs.mapM (fun | .tmp t => pure (tmps.getD t undef) | .cell a t => do loadVar t (← asAddr (tmps.getD a undef))) : Sem (List Value)).run S.P c.w = .ok us c.w ∧ Vs c vs us
 | [],vs,h => by
  simp only [resultsA,Option.some.injEq] at h
  subst h
  exact ⟨[],rfl,by simp [Vs]⟩
 | r :: rs,vs,h => by
  simp only [resultsA] at h
  split at h
  ·cases h
  ·rename_i v hv
   split at h
   ·cases h
   ·rename_i vs' hvs
    simp only [Option.some.injEq] at h
    subst h
    obtain ⟨u,h1,h2⟩ := resultA_sim hR hρ r hv
    obtain ⟨us,h3,h4⟩ := resultsA_sim hR hρ rs hvs
    refine ⟨u :: us, ?_,by simp only [Vs]; exact ⟨_,_,rfl,h2,h4⟩⟩
    rw [List.mapM_cons]
    simp only [Sem.run_bind,h1,h3,Result.andThen_ok,Sem.run_pure]
theorem results_sim {S : AStat} {c : Cx} {H : Heap} {ρ : List AVal} {tmps : Array Value} (hR : Rel c H) (hρ : Vs c ρ tmps.toList) (fn : Func) {vs : List AVal} (h : resultsA S ρ H fn.results.toList = some vs) :
 ∃ u,(results fn tmps).run S.P c.w = .ok u c.w ∧ V c (tupled vs) u := by
 obtain ⟨us,h1,h2⟩ := resultsA_sim hR hρ _ h
 have hl := Vs_length h2
 refine ⟨if h : us.toArray.size = 1 then us.toArray[0] else .tuple us.toArray, ?_, ?_⟩
 ·unfold results
  rw [Array.mapM_eq_mapM_toList]
  simp only [Sem.run_bind,Sem.run_map]
  erw [h1]
  rfl
 ·unfold tupled
  split
  ·rename_i v
   simp only [Vs] at h2
   obtain ⟨u,_,rfl,h3,rfl⟩ := h2
   simpa using h3
  ·rename_i hne
   have : ¬ us.toArray.size = 1 := by
    intro e
    simp only [List.size_toArray] at e
    match vs,hl,hne with
    | [v],_,hne => exact hne v rfl
    | [],hl,_ => simp at hl; omega
    | _ :: _ :: _,hl,_ => simp at hl; omega
   rw [dif_neg this]
   simp only [V]
   exact ⟨us,rfl,h2⟩
theorem callA_ok {S : AStat} (hS : StatOk S) {K : Nat} {rec : ExecF} (hE : ExecOk S K rec) : CallOk S (callA S rec) := by
 intro lo f args H r H' h c vs hR hG hvs
 unfold callA at h
 split at h
 ·rename_i hk hhk
  exact hS.hook f hk hhk lo args H r H' h c vs hR hG hvs
 ·split at h
  ·cases h
  ·rename_i fn hf
   split at h
   ·cases h
   ·rename_i body hb
    refine ⟨⟨fn,hf,by simp [hb]⟩, ?_⟩
    refine calls_of_wp hf hb ?_
    have hlen := Vs_length hvs
    have hargs : Vs c (args ++ List.replicate (fn.ntmps - args.length) undefA) (vs.toArray ++ Array.replicate (fn.ntmps - vs.toArray.size) undef).toList := by
     have : (vs.toArray ++ Array.replicate (fn.ntmps - vs.toArray.size) undef).toList = vs ++ List.replicate (fn.ntmps - args.length) undef := by
      simp [hlen]
     rw [this]
     exact Vs_append hvs (Vs_replicate (undef_V c) _)
    split at h
    ·cases h
    ·cases h
    ·rename_i x ρ H1 hne hrec
     have hwp := (hE _ _ _ _ _ _ _ hrec c { tmps := vs.toArray ++ Array.replicate (fn.ntmps - vs.toArray.size) undef,defers := [] } hR hG hargs rfl).1
     refine wp_mono hwp ?_
     rintro e a' w' ⟨he,hd,c',rfl,h1,h2,h3,h4⟩
     split at h
     ·cases h
     ·rename_i rs hrs
      obtain ⟨u,h5,h6⟩ := results_sim h1 h4 fn hrs
      have fin : ∃ c'',c''.w = c'.w ∧ Rel c'' H' ∧ Tr c H c'' H' ∧ Low lo c H c'' H' ∧ V c'' r u := by
       unfold finish at h
       split at h
       ·rename_i hp
        simp only [Option.some.injEq,Prod.mk.injEq] at h
        obtain ⟨rfl,rfl⟩ := h
        rw [hp] at h3
        exact ⟨c',rfl,h1,h2,h3,h6⟩
       ·rename_i hp
        rw [Option.map_eq_some_iff] at h
        obtain ⟨v',h7,h8⟩ := h
        simp only [Prod.mk.injEq] at h8
        obtain ⟨rfl,rfl⟩ := h8
        rw [hp] at h3
        obtain ⟨g1,g2,g3⟩ := pop_sim (lo := lo) hR h1 h2 h3
        exact ⟨c'.pop H1 H.length H.length,rfl,g1,g2,g3,frz_sim h1 H.length 64 true _ h7 u h6⟩
       ·rename_i hp
        simp only [Option.some.injEq,Prod.mk.injEq] at h
        obtain ⟨rfl,rfl⟩ := h
        rw [hp] at h3
        exact ⟨c',rfl,h1,h2,h3.mono (by simp only [Pol.lo]; omega),h6⟩
      obtain ⟨c'',hw,g1,g2,g3,g4⟩ := fin
      subst he
      cases x with
      | normal => exact ⟨hd,u,h5,u,c'',rfl,hw,g1,g2,g3,g4⟩
      | ret => exact ⟨hd,u,h5,u,c'',rfl,hw,g1,g2,g3,g4⟩
      | exit id => exact (hne _ rfl).elim
theorem rounds_mono {P : Program} {b : Code} {Q Q' : Exit → Act → World → Prop} (hq : ∀ e a w,Q e a w → Q' e a w) : ∀ (k : Nat) {a : Act} {w : World},Code.rounds P b Q k a w → Code.rounds P b Q' k a w
 | 0,_,_,h => h
 | k + 1,a,w,h => by
  refine wp_mono h ?_
  intro e a' w' he
  cases e with
  | normal => exact rounds_mono hq k he
  | _ => exact hq _ _ _ he
theorem stepA_ok {S : AStat} (hS : StatOk S) {K : Nat} {rec : ExecF} (hL : RecLow rec) (hE : ExecOk S K rec) : ExecOk S (K + 1) (stepA S rec) := by
 intro lo code ρ H x ρ' H' h c a hR hG hρ hd
 have here : Post lo c H .normal ρ H .normal a c.w := ⟨rfl,hd,c,rfl,hR,Tr.refl _ _,Low.refl _ _ _,hρ⟩
 unfold stepA at h
 split at h
 ·simp only [Option.some.injEq,Prod.mk.injEq] at h
  obtain ⟨rfl,rfl,rfl⟩ := h
  exact ⟨wp_skip here,(fun b e => by cases e)⟩
 ·simp only [Option.some.injEq,Prod.mk.injEq] at h
  obtain ⟨rfl,rfl,rfl⟩ := h
  exact ⟨wp_label here,(fun b e => by cases e)⟩
 ·simp only [Option.some.injEq,Prod.mk.injEq] at h
  obtain ⟨rfl,rfl,rfl⟩ := h
  exact ⟨wp_ret ⟨rfl,hd,c,rfl,hR,Tr.refl _ _,Low.refl _ _ _,hρ⟩,(fun b e => by cases e)⟩
 ·rename_i id
  simp only [Option.some.injEq,Prod.mk.injEq] at h
  obtain ⟨rfl,rfl,rfl⟩ := h
  exact ⟨wp_exit ⟨rfl,hd,c,rfl,hR,Tr.refl _ _,Low.refl _ _ _,hρ⟩,(fun b e => by cases e)⟩
 ·rename_i p q
  refine ⟨?_,(fun b e => by cases e)⟩
  split at h
  ·rename_i ρ1 H1 h1
   refine wp_seq (wp_mono (hE _ _ _ _ _ _ _ h1 c a hR hG hρ hd).1 ?_)
   rintro e a1 w1 ⟨rfl,hd1,c1,rfl,g1,g2,g3,g4⟩
   exact wp_mono (hE _ _ _ _ _ _ _ h c1 a1 g1 (hG.ext g2.ext) g4 hd1).1 fun e a' w' hp => hp.trans g2 g3
  ·rename_i hne
   refine wp_seq (wp_mono (hE _ _ _ _ _ _ _ h c a hR hG hρ hd).1 ?_)
   rintro e a1 w1 hp
   obtain ⟨he,hp2⟩ := hp
   cases x with
   | normal => exact (hne _ _ h).elim
   | exit id => subst he; exact ⟨rfl,hp2⟩
   | ret => subst he; exact ⟨rfl,hp2⟩
 ·rename_i cnd p q
  refine ⟨?_,(fun b e => by cases e)⟩
  have hc := evalA_V hG hρ cnd
  split at h
  ·rename_i e
   rw [e] at hc
   simp only [V] at hc
   exact wp_cond_true hc (hE _ _ _ _ _ _ _ h c a hR hG hρ hd).1
  ·rename_i e
   rw [e] at hc
   simp only [V] at hc
   exact wp_cond_false hc (hE _ _ _ _ _ _ _ h c a hR hG hρ hd).1
  ·cases h
 ·rename_i id p
  refine ⟨?_,(fun b e => by cases e)⟩
  split at h
  ·rename_i i ρ1 H1 h1
   refine wp_block (wp_mono (hE _ _ _ _ _ _ _ h1 c a hR hG hρ hd).1 ?_)
   rintro e a1 w1 ⟨rfl,hp⟩
   simp only [AExit.toExit,Exit.inBlock]
   split at h
   ·rename_i hi
    simp only [Option.some.injEq,Prod.mk.injEq] at h
    obtain ⟨rfl,rfl,rfl⟩ := h
    rw [if_pos hi]
    exact ⟨rfl,hp⟩
   ·rename_i hi
    simp only [Option.some.injEq,Prod.mk.injEq] at h
    obtain ⟨rfl,rfl,rfl⟩ := h
    rw [if_neg hi]
    exact ⟨rfl,hp⟩
  ·rename_i hne
   refine wp_block (wp_mono (hE _ _ _ _ _ _ _ h c a hR hG hρ hd).1 ?_)
   rintro e a1 w1 ⟨rfl,hp⟩
   cases x with
   | normal => exact ⟨rfl,hp⟩
   | exit id => exact (hne _ _ _ h).elim
   | ret => exact ⟨rfl,hp⟩
 ·rename_i p
  have main : Code.rounds S.P p (Post lo c H x ρ' H') (K + 1) a c.w := by
   split at h
   ·rename_i ρ1 H1 h1
    refine wp_mono (hE _ _ _ _ _ _ _ h1 c a hR hG hρ hd).1 ?_
    rintro e a1 w1 ⟨rfl,hd1,c1,rfl,g1,g2,g3,g4⟩
    exact rounds_mono (fun e a' w' hp => hp.trans g2 g3) K ((hE _ _ _ _ _ _ _ h c1 a1 g1 (hG.ext g2.ext) g4 hd1).2 p rfl)
   ·rename_i hne
    refine wp_mono (hE _ _ _ _ _ _ _ h c a hR hG hρ hd).1 ?_
    rintro e a1 w1 ⟨rfl,hp⟩
    cases x with
    | normal => exact (hne _ _ h).elim
    | exit id => exact ⟨rfl,hp⟩
    | ret => exact ⟨rfl,hp⟩
  refine ⟨wp_loop_rounds (K + 1) main,fun b e => ?_⟩
  cases e
  exact main
 ·rename_i id ops draw
  refine ⟨?_,(fun b e => by cases e)⟩
  split at h
  ·rename_i hd1
   subst hd1
   rw [Option.map_eq_some_iff] at h
   obtain ⟨⟨ρ1,H1⟩,h1,h2⟩ := h
   simp only [Prod.mk.injEq] at h2
   obtain ⟨rfl,rfl,rfl⟩ := h2
   exact drawA_sim hS (callA_ok hS hE) (callA_still S hL) h1 hR hG hρ hd
  ·rename_i hd0
   rw [Option.map_eq_some_iff] at h
   obtain ⟨⟨ρ1,H1⟩,h1,h2⟩ := h
   simp only [Prod.mk.injEq] at h2
   obtain ⟨rfl,rfl,rfl⟩ := h2
   have hdf : draw = false := by simpa using hd0
   subst hdf
   exact wp_region_list (opsA_sim hS (callA_ok hS hE) _ h1 hR hG hρ hd fun e a' w' hp => hp)
 ·cases h
theorem execA_ok {S : AStat} (hS : StatOk S) : ∀ n,ExecOk S n (execA S n)
 | 0 => fun lo code ρ H x ρ' H' h => by cases h
 | n + 1 => stepA_ok hS (execA_low (fun f hk h lo args H r H' e => hS.low f hk h lo args H r H' e) n) (execA_ok hS n)
theorem runA_ok {S : AStat} (hS : StatOk S) (n : Nat) : CallOk S (runA S n) := callA_ok hS (execA_ok hS n)
end Go.Am

/- The idealised run at the top of a claim: what it computes the model's call answers, and of what was there nothing turns. Generic: over any program. -/
namespace Go.Am
open Go.RowKit Go.ChangeShapes Go.WideShapes Go.ChangeAt
def cx0 (W : World) (θ : List (Nat × Nat) := []) : Cx := { ι := fun _ => none,θ := θ,I := fun B => B < W.heap.size,w := W }
theorem rel0 (W : World) (θ : List (Nat × Nat) := []) : Rel (cx0 W θ) [] where
 blk := fun b blk h => by simp at h
 inj := fun b b' blk blk' B base base' h => by simp at h
 fresh := fun _ _ => rfl
 lt := fun _ h => h
theorem tr0_below {W : World} {θ : List (Nat × Nat)} {c' : Cx} {H' : Heap} (h : Tr (cx0 W θ) [] c' H') : Go.RowKit.Below W.heap.size W c'.w where
 os := h.os
 tape := h.tape
 output := h.output
 size := h.size
 block := fun k hk => h.frame k hk (fun ⟨b,blk,base,hb,_⟩ => by simp at hb)
theorem law_calls {S : AStat} (hS : StatOk S) {W : World} {θ : List (Nat × Nat)} (hG : GlobOk S (cx0 W θ)) {n : Nat} {f : FuncId} {av : List AVal} {args : Array Value} (hv : Vs (cx0 W θ) av args.toList)
 {H' : Heap} (h : runA S n 0 f av [] = some (.bool true,H')) :
 Calls S.P f args W fun e w' => e = .returned (.bool true) ∧ Go.RowKit.Below W.heap.size W w' := by
 have := (runA_ok hS n 0 f av [] _ _ h (cx0 W θ) args.toList (rel0 W θ) hG hv).2
 rw [Array.toArray_toList] at this
 refine this.mono fun e w' hp => ?_
 obtain ⟨v,c',rfl,rfl,hR,hT,hL,hV⟩ := hp
 simp only [V] at hV
 subst hV
 exact ⟨rfl,tr0_below hT⟩
section
variable {H : Type} {enc : TypeId × Value → H} {P : Program}
theorem trodAll_below (hl : laidOutB P = true) {W W' : World} (hb : Go.RowKit.Below W.heap.size W W') :
 ∀ {ts : List TypeId} {vs : List Value} {ds : List (DataW H)} {ps : List MemPlace},(ts.all fun t => P.readableRec t && decide (t < P.types.size)) = true →
 DataW.TrodAll enc P W 0 (fun _ => true) true ts vs ds ps → (∀ x ∈ ps,x.block < W.heap.size) → ∀ sp : Nat → Bool,(∀ x ∈ ps,sp x.block = true) → DataW.TrodAll enc P W' 0 sp true ts vs ds ps
 | [],_,_,_,_,h,_,_,_ => by
  obtain ⟨rfl,rfl,rfl⟩ := trodAll_nil h
  exact trodAll_mk0
 | t :: ts,_,_,_,hr,h,hlt,sp,hsp => by
  obtain ⟨v,vs1,d,ds1,a,b,rfl,rfl,rfl,h1,h2⟩ := trodAll_cons h
  simp only [List.all_cons,Bool.and_eq_true,decide_eq_true_eq] at hr
  obtain ⟨⟨hr1,hr2⟩,hr3⟩ := hr
  refine ⟨a,b, ?_,trodAll_below hl hb hr3 h2 (fun x hx => hlt x (List.mem_append.2 (.inr hx))) sp (fun x hx => hsp x (List.mem_append.2 (.inr hx))),rfl⟩
  exact WideElems.Trod_stays hl hr1 hr2 h1 (fun x hx => hb.same (hlt x (List.mem_append.2 (.inl hx)))) (fun x hx => hsp x (List.mem_append.2 (.inl hx)))
theorem post_of_below (hl : laidOutB P = true) {f : Func} {s : ChangeSpec} {apart fresh handsOn again : Bool} {W W' : World} {args : Array Value} {ds gs : List (DataW H)} {before : List MemPlace}
 (hW : DataW.Whole enc P f.params.toList s.vars apart W args.toList ds gs before) (hb : Go.RowKit.Below W.heap.size W W')
 (hps : (f.params.toList.all fun t => P.readableRec t && decide (t < P.types.size)) = true) (hvs : s.vars = [])
 {tb : TypeId} (hrt : f.resultTypes = #[tb]) (htb : P.underlying tb = some .bool)
 (hs : s.fn H (ds ++ gs) = { results := [.lit (.bool true)],args := ds }) :
 s.post enc P f apart fresh handsOn again W args (.bool true) W' := by
 have hres : ∀ (b : Nat) (sp : Nat → Bool) (hd : Bool),DataW.TrodAll enc P W' b sp hd f.resultTypes.toList ((Value.bool true).resultList f.resultTypes.size) (s.fn H (ds ++ gs)).results [] := by
  intro b sp hd
  rw [hs,hrt]
  exact trodAll_cons_mk (shut_bool htb _) trodAll_mk0
 have hlt := hW.lt
 obtain ⟨p,q,hA,hV,hpq,hz,hn⟩ := id hW
 rw [hvs] at hV
 obtain ⟨rfl,rfl⟩ := trodVars_none hV
 simp only [List.append_nil] at hpq
 subst hpq
 have hargs : ∀ sp : Nat → Bool,(∀ x ∈ before,sp x.block = true) → DataW.TrodAll enc P W' 0 sp true f.params.toList args.toList (s.fn H (ds ++ [])).args before := by
  intro sp hsp
  rw [hs]
  exact trodAll_below hl hb hps hA hlt sp hsp
 have hvars : ∀ sp : Nat → Bool,DataW.TrodVars enc P W' sp s.vars (s.fn H (ds ++ [])).vars [] := by
  intro sp
  rw [hs,hvs]
  rfl
 have hold : ∀ x ∈ before,(fun b => decide (b < W.heap.size)) x.block = true := fun x hx => by simpa using hlt x hx
 refine ⟨ds,[],before,[],before,[],hW,hres _ _ _,hargs _ hold,hvars _,World.keptBut_mono (fun p hp => ⟨hp,Or.inr (by simpa using hp)⟩) (hb.frame (· ∈ before)),fun _ => ?_⟩
 refine ⟨ok_one hrt rfl (okWide_bool_mk htb _),_,_,([] ++ before) ++ [],⟨[] ++ before,[],trodAll_append (hargs _ (fun _ _ => rfl)) (hres _ _ _),hvars _,rfl, ?_, ?_⟩, ?_⟩
 ·intro b off hp
  have hp' : MemPlace.cell b off ∈ before := by simpa using hp
  rw [hb.frozen (hlt _ hp')]
  exact hz b off hp'
 ·intro ha
  simpa using hn ha
 ·intro x hx _
  simpa using hx
theorem law_contract {S : AStat} (hS : StatOk S) (hP : S.P = P) (hl : laidOutB P = true) {fid : FuncId} {f : Func} {s : ChangeSpec} {apart fresh handsOn again : Bool} {W : World} {args : Array Value} {ds gs : List (DataW H)} {before : List MemPlace}
 (hW : DataW.Whole enc P f.params.toList s.vars apart W args.toList ds gs before)
 (hps : (f.params.toList.all fun t => P.readableRec t && decide (t < P.types.size)) = true) (hvs : s.vars = [])
 {tb : TypeId} (hrt : f.resultTypes = #[tb]) (htb : P.underlying tb = some .bool)
 (hs : s.fn H (ds ++ gs) = { results := [.lit (.bool true)],args := ds })
 {θ : List (Nat × Nat)} (hG : GlobOk S (cx0 W θ)) {av : List AVal} (hv : Vs (cx0 W θ) av args.toList) {n : Nat} {H' : Heap} (h : runA S n 0 fid av [] = some (.bool true,H')) :
 Calls P fid args W fun e W' => ∃ v,e = .returned v ∧ s.post enc P f apart fresh handsOn again W args v W' := by
 subst hP
 refine (law_calls hS hG hv h).mono fun e W' ⟨he,hb⟩ => ?_
 subst he
 exact ⟨_,rfl,post_of_below hl hW hb hps hvs hrt htb hs⟩
end
end Go.Am

/- More fuel does not turn what the idealised run has come to; how runs are put together. Generic: over any program. -/
namespace Go.Am
def CLe (a b : CallF) : Prop := ∀ lo f av H r,a lo f av H = some r → b lo f av H = some r
def ELe (a b : ExecF) : Prop := ∀ lo c ρ H r,a lo c ρ H = some r → b lo c ρ H = some r
theorem effA_mono {S : AStat} {a b : CallF} (h : CLe a b) {lo : Nat} {ρ : List AVal} {H : Heap} {o : Op} {r : AVal × Heap} (e : effA S a lo ρ H o = some r) : effA S b lo ρ H o = some r := by
 unfold effA at e ⊢
 split at e
 all_goals first
  | exact e
  | (split at e <;> first | exact h _ _ _ _ _ e | (split at e <;> first | exact h _ _ _ _ _ e | exact e | cases e) | cases e)
  | cases e
theorem opA_mono {S : AStat} {a b : CallF} (h : CLe a b) {lo : Nat} {ρ : List AVal} {H : Heap} {o : Oper} {r : AVal × Heap} (e : opA S a lo ρ H o = some r) : opA S b lo ρ H o = some r := by
 unfold opA at e ⊢
 split
 ·simp_all
 ·split
  ·simp_all
  ·simp_all
   exact effA_mono h e
theorem opsA_mono {S : AStat} {a b : CallF} (h : CLe a b) {lo : Nat} {ops : List Oper} : ∀ {os : List Oper} {ρ : List AVal} {H : Heap} {r : List AVal × Heap},opsA S a lo ops os ρ H = some r → opsA S b lo ops os ρ H = some r
 | [],_,_,_,e => e
 | o :: os,ρ,H,r,e => by
  unfold opsA at e ⊢
  split
  ·simp_all
  ·simp_all
   exact opsA_mono h e
  ·rename_i hg
   simp only [hg] at e
   cases ho : opA S a lo ρ H o with
   | none => simp [ho] at e
   | some v =>
    rw [opA_mono h ho]
    simp only [ho] at e
    exact opsA_mono h e
theorem drawGo_mono {S : AStat} {a b : CallF} (h : CLe a b) {lo n0 : Nat} {ops : Array Oper} {B : List Nat} : ∀ {os : List Oper} {k : Nat} {ρ : List AVal} {H : Heap} {r : DrawOut},drawGo S a lo n0 ops B os k ρ H = some r → drawGo S b lo n0 ops B os k ρ H = some r
 | [],_,_,_,_,e => e
 | o :: os,k,ρ,H,r,e => by
  unfold drawGo at e ⊢
  split
  ·simp_all
  ·rename_i hg
   simp only [hg] at e
   exact drawGo_mono h e
  ·rename_i hg
   simp only [hg] at e
   split
   ·rename_i hn
    simp only [hn,if_true] at e
    split
    ·simp_all
    ·rename_i hq
     simp only [hq] at e
     split
     ·rename_i hh
      simp only [hh] at e
      exact drawGo_mono h e
     ·rename_i hh
      split at e
      ·rename_i hh'
       exact (hh hh').elim
      ·cases e
   ·rename_i hn
    simp only [hn,if_false,Bool.false_eq_true] at e
    split
    ·rename_i he
     simp only [he,if_true] at e
     cases ho : effA S a lo ρ (hide H (hidden ops B n0 k)) o.op with
     | none => simp [ho] at e
     | some v =>
      rw [effA_mono h ho]
      simp only [ho] at e ⊢
      split
      ·rename_i hl
       simp only [hl,if_true] at e
       cases hd : drawGo S a lo n0 ops B os (k + 1) (putA ρ o.dst v.1) (unhide H v.2 (hidden ops B n0 k)) with
       | none => simp [hd] at e
       | some q =>
        rw [drawGo_mono h hd]
        simp only [hd] at e ⊢
        exact e
      ·rename_i hl
       simp [hl] at e
    ·rename_i he
     simp only [he,if_false,Bool.false_eq_true] at e
     split
     ·simp_all
     ·rename_i v hq
      simp only [hq] at e
      cases hd : drawGo S a lo n0 ops B os (k + 1) (putA ρ o.dst v) H with
      | none => simp [hd] at e
      | some q =>
       rw [drawGo_mono h hd]
       simp only [hd] at e ⊢
       exact e
theorem drawA_mono {S : AStat} {a b : CallF} (h : CLe a b) {lo : Nat} {ops : Array Oper} {ρ : List AVal} {H : Heap} {r : List AVal × Heap} (e : drawA S a lo ops ρ H = some r) : drawA S b lo ops ρ H = some r := by
 unfold drawA at e ⊢
 simp only at e ⊢
 split
 ·rename_i hc
  simp only [hc,if_true] at e
  cases hd : drawGo S a lo H.length ops (befs ops.toList []) ops.toList 0 ρ (if ops.any (fun o => isNewB o.op) then H ++ List.replicate ops.size none else H) with
  | none => rw [hd] at e; cases e
  | some q =>
   rw [drawGo_mono h hd]
   rw [hd] at e
   exact e
 ·rename_i hc
  rw [if_neg hc] at e
  cases e
theorem callA_mono {S : AStat} {a b : ExecF} (h : ELe a b) : CLe (callA S a) (callA S b) := by
 intro lo f av H r e
 unfold callA at e ⊢
 split
 ·simp_all
 ·rename_i hk
  simp only [hk] at e
  split
  ·simp_all
  ·rename_i fn hf
   simp only [hf] at e
   split
   ·simp_all
   ·rename_i body hb
    simp only [hb] at e
    split at e
    ·cases e
    ·cases e
    ·rename_i x ρ H' hne hr
     rw [h _ _ _ _ _ hr]
     cases x with
     | exit i => exact (hne i rfl).elim
     | _ => exact e
theorem stepA_mono {S : AStat} {a b : ExecF} (h : ELe a b) : ELe (stepA S a) (stepA S b) := by
 intro lo c ρ H r e
 unfold stepA at e ⊢
 split
 ·exact e
 ·exact e
 ·exact e
 ·exact e
 ·rename_i p q
  simp only at e
  split at e
  ·rename_i ρ' H' h1
   rw [h _ _ _ _ _ h1]
   exact h _ _ _ _ _ e
  ·rename_i hne
   rw [h _ _ _ _ _ e]
   split
   ·rename_i h2
    simp only [Option.some.injEq] at h2
    subst h2
    exact (hne _ _ e).elim
   ·rfl
 ·rename_i x p q
  simp only at e
  cases hb : evalA S ρ x with
  | bool t => cases t <;> (simp only [hb] at e ⊢; exact h _ _ _ _ _ e)
  | _ => simp [hb] at e
 ·rename_i id p
  simp only at e
  split at e
  ·rename_i h1
   rw [h _ _ _ _ _ h1]
   exact e
  ·rename_i hne
   rw [h _ _ _ _ _ e]
   split
   ·rename_i h2
    simp only [Option.some.injEq] at h2
    subst h2
    exact (hne _ _ _ e).elim
   ·rfl
 ·rename_i p
  simp only at e
  split at e
  ·rename_i ρ' H' h1
   rw [h _ _ _ _ _ h1]
   exact h _ _ _ _ _ e
  ·rename_i hne
   rw [h _ _ _ _ _ e]
   split
   ·rename_i h2
    simp only [Option.some.injEq] at h2
    subst h2
    exact (hne _ _ e).elim
   ·rfl
 ·rename_i id ops draw
  simp only at e
  split
  ·rename_i hd
   simp only [hd,if_true] at e
   rw [Option.map_eq_some_iff] at e ⊢
   obtain ⟨q,h1,h2⟩ := e
   exact ⟨q,drawA_mono (callA_mono h) h1,h2⟩
  ·rename_i hd
   simp only [hd,if_false,Bool.false_eq_true] at e
   rw [Option.map_eq_some_iff] at e ⊢
   obtain ⟨q,h1,h2⟩ := e
   exact ⟨q,opsA_mono (callA_mono h) h1,h2⟩
 ·simp_all
theorem execA_succ {S : AStat} : ∀ n,ELe (execA S n) (execA S (n + 1))
 | 0 => fun _ _ _ _ _ e => by cases e
 | n + 1 => stepA_mono (execA_succ n)
theorem execA_mono {S : AStat} {n m : Nat} (h : n ≤ m) : ELe (execA S n) (execA S m) := by
 induction h with
 | refl => exact fun _ _ _ _ _ e => e
 | step _ ih => exact fun _ _ _ _ _ e => execA_succ _ _ _ _ _ _ (ih _ _ _ _ _ e)
def Runs (S : AStat) (lo : Nat) (c : Code) (ρ : List AVal) (H : Heap) (r : AExit × List AVal × Heap) : Prop := ∃ n,execA S n lo c ρ H = some r
def CallRuns (S : AStat) (lo : Nat) (f : FuncId) (av : List AVal) (H : Heap) (r : AVal × Heap) : Prop := ∃ n,runA S n lo f av H = some r
theorem Runs.seq {S : AStat} {lo : Nat} {a b : Code} {ρ ρ' : List AVal} {H H' : Heap} {r : AExit × List AVal × Heap} (h : Runs S lo a ρ H (.normal,ρ',H')) (k : Runs S lo b ρ' H' r) : Runs S lo (.seq a b) ρ H r := by
 obtain ⟨n,h⟩ := h
 obtain ⟨m,k⟩ := k
 refine ⟨max n m + 1, ?_⟩
 show stepA S (execA S (max n m)) lo (.seq a b) ρ H = some r
 simp only [stepA]
 rw [execA_mono (Nat.le_max_left n m) _ _ _ _ _ h]
 exact execA_mono (Nat.le_max_right n m) _ _ _ _ _ k
theorem Runs.seq_out {S : AStat} {lo : Nat} {a b : Code} {ρ ρ' : List AVal} {H H' : Heap} {x : AExit} (hx : x ≠ .normal) (h : Runs S lo a ρ H (x,ρ',H')) : Runs S lo (.seq a b) ρ H (x,ρ',H') := by
 obtain ⟨n,h⟩ := h
 refine ⟨n + 1, ?_⟩
 show stepA S (execA S n) lo (.seq a b) ρ H = some _
 simp only [stepA]
 rw [h]
 cases x with
 | normal => exact (hx rfl).elim
 | _ => rfl
theorem Runs.cond {S : AStat} {lo : Nat} {x : Operand} {a b : Code} {ρ : List AVal} {H : Heap} {r : AExit × List AVal × Heap} {t : Bool} (hx : evalA S ρ x = .bool t) (h : Runs S lo (if t then a else b) ρ H r) : Runs S lo (.cond x a b) ρ H r := by
 obtain ⟨n,h⟩ := h
 refine ⟨n + 1, ?_⟩
 show stepA S (execA S n) lo (.cond x a b) ρ H = some _
 simp only [stepA,hx]
 cases t <;> exact h
theorem Runs.block {S : AStat} {lo : Nat} {id : Nat} {b : Code} {ρ ρ' : List AVal} {H H' : Heap} {x : AExit} (h : Runs S lo b ρ H (x,ρ',H')) : Runs S lo (.block id b) ρ H ((match x with | .exit i => if i = id then .normal else .exit i | x => x),ρ',H') := by
 obtain ⟨n,h⟩ := h
 refine ⟨n + 1, ?_⟩
 show stepA S (execA S n) lo (.block id b) ρ H = some _
 simp only [stepA,h]
 cases x with
 | exit i =>
  simp only
  split <;> rfl
 | _ => rfl
theorem Runs.loop_next {S : AStat} {lo : Nat} {b : Code} {ρ ρ' : List AVal} {H H' : Heap} {r : AExit × List AVal × Heap} (h : Runs S lo b ρ H (.normal,ρ',H')) (k : Runs S lo (.loop b) ρ' H' r) : Runs S lo (.loop b) ρ H r := by
 obtain ⟨n,h⟩ := h
 obtain ⟨m,k⟩ := k
 refine ⟨max n m + 1, ?_⟩
 show stepA S (execA S (max n m)) lo (.loop b) ρ H = some r
 simp only [stepA]
 rw [execA_mono (Nat.le_max_left n m) _ _ _ _ _ h]
 exact execA_mono (Nat.le_max_right n m) _ _ _ _ _ k
theorem Runs.loop_out {S : AStat} {lo : Nat} {b : Code} {ρ ρ' : List AVal} {H H' : Heap} {x : AExit} (hx : x ≠ .normal) (h : Runs S lo b ρ H (x,ρ',H')) : Runs S lo (.loop b) ρ H (x,ρ',H') := by
 obtain ⟨n,h⟩ := h
 refine ⟨n + 1, ?_⟩
 show stepA S (execA S n) lo (.loop b) ρ H = some _
 simp only [stepA]
 rw [h]
 cases x with
 | normal => exact (hx rfl).elim
 | _ => rfl
theorem CallRuns.of_body {S : AStat} {lo : Nat} {f : FuncId} {fn : Func} {body : Code} (hf : S.P.funcs[f]? = some fn) (hb : fn.body = some body) (hk : S.hook f = none) {av : List AVal} {H : Heap} {x : AExit} {ρ : List AVal} {H' : Heap}
 (h : Runs S ((S.pol f).lo lo H) body (av ++ List.replicate (fn.ntmps - av.length) undefA) H (x,ρ,H')) (hx : ∀ i,x ≠ .exit i)
 {vs : List AVal} (hr : resultsA S ρ H' fn.results.toList = some vs) {r : AVal × Heap} (hfin : finish (S.pol f) H (tupled vs) H' = some r) : CallRuns S lo f av H r := by
 obtain ⟨n,h⟩ := h
 refine ⟨n, ?_⟩
 show callA S (execA S n) lo f av H = some r
 simp only [callA,hk,hf,hb]
 cases hp : S.pol f <;> simp only [hp] at h hfin ⊢ <;> rw [h] <;> cases x <;> first | exact (hx _ rfl).elim | simp only [hr,hfin]
def flat : Code → List Code → List Code
 | .seq a b,k => flat a (flat b k)
 | c,k => c :: k
def execL (S : AStat) (N lo : Nat) : List Code → List AVal → Heap → Option (AExit × List AVal × Heap)
 | [],ρ,H => some (.normal,ρ,H)
 | c :: l,ρ,H => match execA S N lo c ρ H with
  | some (.normal,ρ',H') => execL S N lo l ρ' H'
  | r => r
def RunsL (S : AStat) (lo : Nat) : List Code → List AVal → Heap → AExit × List AVal × Heap → Prop
 | [],ρ,H,r => r = (.normal,ρ,H)
 | c :: l,ρ,H,r => (∃ ρ' H',Runs S lo c ρ H (.normal,ρ',H') ∧ RunsL S lo l ρ' H' r) ∨ (r.1 ≠ .normal ∧ Runs S lo c ρ H r)
theorem RunsL.of_exec {S : AStat} {N lo : Nat} : ∀ {l : List Code} {ρ : List AVal} {H : Heap} {r : AExit × List AVal × Heap},execL S N lo l ρ H = some r → RunsL S lo l ρ H r
 | [],_,_,_,h => by
  simp only [execL,Option.some.injEq] at h
  exact h.symm
 | c :: l,ρ,H,r,h => by
  simp only [execL] at h
  split at h
  ·rename_i h1
   exact .inl ⟨_,_,⟨N,h1⟩,RunsL.of_exec h⟩
  ·rename_i hne
   refine .inr ⟨?_,⟨N,h⟩⟩
   intro e
   obtain ⟨x,ρ',H'⟩ := r
   cases e
   exact hne _ _ h
theorem RunsL.flat {S : AStat} {lo : Nat} : ∀ {c : Code} {k : List Code} {ρ : List AVal} {H : Heap} {r : AExit × List AVal × Heap},RunsL S lo (flat c k) ρ H r → RunsL S lo (c :: k) ρ H r := by
 intro c
 induction c with
 | seq a b iha ihb =>
  intro k ρ H r h
  have h := iha h
  rcases h with ⟨ρ1,H1,h1,h2⟩ | ⟨h1,h2⟩
  ·rcases ihb h2 with ⟨ρ2,H2,h3,h4⟩ | ⟨h3,h4⟩
   ·exact .inl ⟨ρ2,H2,h1.seq h3,h4⟩
   ·exact .inr ⟨h3,h1.seq h4⟩
  ·obtain ⟨x,ρ',H'⟩ := r
   exact .inr ⟨h1,Runs.seq_out h1 h2⟩
 | _ => intro k ρ H r h; exact h
theorem Runs.of_flat {S : AStat} {lo : Nat} {c : Code} {ρ : List AVal} {H : Heap} {r : AExit × List AVal × Heap} (h : RunsL S lo (Am.flat c []) ρ H r) : Runs S lo c ρ H r := by
 rcases RunsL.flat h with ⟨ρ',H',h1,h2⟩ | ⟨_,h2⟩
 ·cases h2
  exact h1
 ·exact h2
def headsA (S : AStat) (lo N : Nat) : Nat → List Code → List AVal → Heap → Option (List Code × List AVal × Heap)
 | 0,l,ρ,H => some (l,ρ,H)
 | k + 1,c :: l,ρ,H => match execA S N lo c ρ H with
  | some (.normal,ρ',H') => headsA S lo N k l ρ' H'
  | _ => none
 | _ + 1,[],_,_ => none
theorem RunsL.heads {S : AStat} {lo N : Nat} : ∀ {k : Nat} {l : List Code} {ρ : List AVal} {H : Heap} {l' : List Code} {ρ' : List AVal} {H' : Heap} {r : AExit × List AVal × Heap},
 headsA S lo N k l ρ H = some (l',ρ',H') → RunsL S lo l' ρ' H' r → RunsL S lo l ρ H r
 | 0,l,ρ,H,l',ρ',H',r,h,k => by
  simp only [headsA,Option.some.injEq,Prod.mk.injEq] at h
  obtain ⟨rfl,rfl,rfl⟩ := h
  exact k
 | j + 1,[],ρ,H,l',ρ',H',r,h,k => by cases h
 | j + 1,c :: l,ρ,H,l',ρ',H',r,h,k => by
  simp only [headsA] at h
  split at h
  ·rename_i h1
   exact .inl ⟨_,_,⟨N,h1⟩,RunsL.heads h k⟩
  ·cases h
def tailA (S : AStat) (N : Nat) (f : FuncId) (fn : Func) (lo : Nat) (H0 : Heap) (l : List Code) (ρ : List AVal) (H : Heap) : Option (AVal × Heap) :=
 match execL S N ((S.pol f).lo lo H0) l ρ H with
 | none => none
 | some (.exit _,_,_) => none
 | some (_,ρ',H') =>
  match resultsA S ρ' H' fn.results.toList with
  | none => none
  | some vs => finish (S.pol f) H0 (tupled vs) H'
def headA (S : AStat) (N k : Nat) (f : FuncId) (fn : Func) (body : Code) (lo : Nat) (av : List AVal) (H : Heap) : Option (List Code × List AVal × Heap) :=
 headsA S ((S.pol f).lo lo H) N k (flat body []) (av ++ List.replicate (fn.ntmps - av.length) undefA) H
theorem CallRuns.of_tail {S : AStat} {lo : Nat} {f : FuncId} {fn : Func} {body : Code} (hf : S.P.funcs[f]? = some fn) (hb : fn.body = some body) (hk : S.hook f = none) {av : List AVal} {H : Heap} {N k M : Nat}
 {l' : List Code} {ρ' : List AVal} {H' : Heap} (h : headA S N k f fn body lo av H = some (l',ρ',H')) {r : AVal × Heap} (ht : tailA S M f fn lo H l' ρ' H' = some r) : CallRuns S lo f av H r := by
 unfold tailA at ht
 split at ht
 ·cases ht
 ·cases ht
 ·rename_i x ρ1 H1 hne h1
  split at ht
  ·cases ht
  ·rename_i vs hvs
   exact CallRuns.of_body hf hb hk (Runs.of_flat (RunsL.heads h (RunsL.of_exec h1))) (fun i e => hne i e) hvs ht
theorem set_self {ρ : List AVal} {i : Nat} {v : AVal} (h : ρ[i]? = some v) : ρ.set i v = ρ := by
 apply List.ext_getElem?
 intro j
 rw [List.getElem?_set]
 split
 ·rename_i hij
  subst hij
  rw [h]
  split
  ·rfl
  ·rename_i hl
   rw [List.getElem?_eq_none (by omega)] at h
   cases h
 ·rfl
theorem CallRuns.cut {S : AStat} {lo : Nat} {f : FuncId} {fn : Func} {body : Code} (hf : S.P.funcs[f]? = some fn) (hb : fn.body = some body) (hk : S.hook f = none) {av : List AVal} {H : Heap} (N k M i : Nat) {v w : AVal}
 (hi : ((headA S N k f fn body lo av H).bind fun s => s.2.1[i]?) = some v) (hvw : v = w) {a : AVal}
 (ht : ((headA S N k f fn body lo av H).bind fun s => (tailA S M f fn lo H s.1 (s.2.1.set i w) s.2.2).map (·.1)) = some a) : ∃ H',CallRuns S lo f av H (a,H') := by
 subst hvw
 cases hh : headA S N k f fn body lo av H with
 | none => simp [hh] at hi
 | some s =>
  obtain ⟨l',ρ',H'⟩ := s
  simp only [hh,Option.bind_some] at hi ht
  rw [set_self hi,Option.map_eq_some_iff] at ht
  obtain ⟨⟨a',H1⟩,h1,h2⟩ := ht
  cases h2
  exact ⟨H1,CallRuns.of_tail hf hb hk hh h1⟩
end Go.Am

/- Registers and memory as trees, for the kernel's sake. Generic. -/
namespace Go.Am
inductive Bt (α : Type) where
 | l (a : α)
 | n (x y : Bt α)
noncomputable def Bt.get {α : Type} (t : Bt α) : Nat → Option α :=
 Bt.rec (motive := fun _ => Nat → Option α) (fun a _ => some a) (fun _ _ f g i => Bool.rec (f (Nat.div i 2)) (g (Nat.div i 2)) (Nat.beq (Nat.mod i 2) 1)) t
noncomputable def Bt.set {α : Type} (t : Bt α) (v : α) : Nat → Bt α :=
 Bt.rec (motive := fun _ => Nat → Bt α) (fun _ _ => .l v) (fun x y f g i => Bool.rec (.n (f (Nat.div i 2)) y) (.n x (g (Nat.div i 2))) (Nat.beq (Nat.mod i 2) 1)) t
noncomputable def Bt.full {α : Type} (a : α) (d : Nat) : Bt α := Nat.rec (.l a) (fun _ t => .n t t) d
def Full {α : Type} : Nat → Bt α → Prop
 | 0,.l _ => True
 | d + 1,.n x y => Full d x ∧ Full d y
 | _,_ => False
theorem full_full {α : Type} (a : α) : ∀ d,Full d (Bt.full a d)
 | 0 => trivial
 | d + 1 => ⟨full_full a d,full_full a d⟩
theorem get_full {α : Type} (a : α) : ∀ (d i : Nat),(Bt.full a d).get i = some a
 | 0,_ => rfl
 | d + 1,i => by
  show Bool.rec ((Bt.full a d).get (Nat.div i 2)) ((Bt.full a d).get (Nat.div i 2)) (Nat.beq (Nat.mod i 2) 1) = some a
  cases Nat.beq (Nat.mod i 2) 1 <;> exact get_full a d _
theorem full_set {α : Type} (v : α) : ∀ (d : Nat) (t : Bt α) (i : Nat),Full d t → Full d (t.set v i)
 | 0,.l _,_,_ => trivial
 | 0,.n _ _,_,h => h.elim
 | d + 1,.l _,_,h => h.elim
 | d + 1,.n x y,i,h => by
  show Full (d + 1) (Bool.rec (.n (x.set v (Nat.div i 2)) y) (.n x (y.set v (Nat.div i 2))) (Nat.beq (Nat.mod i 2) 1))
  cases Nat.beq (Nat.mod i 2) 1
  ·exact ⟨full_set v d x _ h.1,h.2⟩
  ·exact ⟨h.1,full_set v d y _ h.2⟩
theorem get_set {α : Type} (v : α) : ∀ (d : Nat) (t : Bt α) (i j : Nat),Full d t → i < 2 ^ d → j < 2 ^ d → (t.set v i).get j = if i = j then some v else t.get j
 | 0,.l _,i,j,_,hi,hj => by
  have : i = j := by simp at hi hj; omega
  subst this
  simp only [if_true]
  rfl
 | 0,.n _ _,_,_,h,_,_ => h.elim
 | d + 1,.l _,_,_,h,_,_ => h.elim
 | d + 1,.n x y,i,j,h,hi,hj => by
  have hi2 : i / 2 < 2 ^ d := by rw [Nat.pow_succ] at hi; omega
  have hj2 : j / 2 < 2 ^ d := by rw [Nat.pow_succ] at hj; omega
  have e1 : ∀ z : Nat,Nat.beq (Nat.mod z 2) 1 = decide (z % 2 = 1) := fun z => by
   show Nat.beq (z % 2) 1 = _
   rw [Bool.eq_iff_iff,Nat.beq_eq,decide_eq_true_eq]
  have gt : ∀ (p q : Bt α) (z : Nat),(Bt.n p q).get z = if z % 2 = 1 then q.get (z / 2) else p.get (z / 2) := by
   intro p q z
   have : (Bt.n p q).get z = (match Nat.beq (Nat.mod z 2) 1 with | false => p.get (Nat.div z 2) | true => q.get (Nat.div z 2)) := by
    show (Bool.rec (p.get (Nat.div z 2)) (q.get (Nat.div z 2)) (Nat.beq (Nat.mod z 2) 1) : Option α) = _
    cases Nat.beq (Nat.mod z 2) 1 <;> rfl
   rw [this,e1]
   by_cases h : z % 2 = 1 <;> simp [h] <;> rfl
  have st : (Bt.n x y).set v i = if i % 2 = 1 then .n x (y.set v (i / 2)) else .n (x.set v (i / 2)) y := by
   have : (Bt.n x y).set v i = (match Nat.beq (Nat.mod i 2) 1 with | false => Bt.n (x.set v (Nat.div i 2)) y | true => .n x (y.set v (Nat.div i 2))) := by
    show (Bool.rec (Bt.n (x.set v (Nat.div i 2)) y) (.n x (y.set v (Nat.div i 2))) (Nat.beq (Nat.mod i 2) 1) : Bt α) = _
    cases Nat.beq (Nat.mod i 2) 1 <;> rfl
   rw [this,e1]
   by_cases h : i % 2 = 1 <;> simp [h] <;> rfl
  rw [st]
  by_cases a : i % 2 = 1 <;> by_cases b : j % 2 = 1
  ·rw [if_pos a,gt,gt,if_pos b,if_pos b,get_set v d y _ _ h.2 hi2 hj2]
   have : i / 2 = j / 2 ↔ i = j := by omega
   simp [this]
  ·rw [if_pos a,gt,gt,if_neg b,if_neg b,if_neg (by omega)]
  ·rw [if_neg a,gt,gt,if_pos b,if_pos b,if_neg (by omega)]
  ·rw [if_neg a,gt,gt,if_neg b,if_neg b,get_set v d x _ _ h.1 hi2 hj2]
   have : i / 2 = j / 2 ↔ i = j := by omega
   simp [this]
structure Rg where
 t : Bt AVal
 n : Nat
noncomputable def Rg.get? (r : Rg) (i : Nat) : Option AVal := bif Nat.blt i r.n then r.t.get i else none
noncomputable def Rg.get (r : Rg) (i : Nat) : AVal := (r.get? i).getD undefA
noncomputable def Rg.set (r : Rg) (i : Nat) (v : AVal) : Rg := bif Nat.blt i r.n then ⟨r.t.set v i,r.n⟩ else r
noncomputable def Rg.toL (r : Rg) : List AVal := (List.range r.n).map r.get
def Rg.Ok (r : Rg) : Prop := Full 9 r.t ∧ r.n ≤ 512
theorem blt_iff (i n : Nat) : Nat.blt i n = decide (i < n) := by
 rw [Bool.eq_iff_iff,decide_eq_true_eq,Nat.blt_eq]
theorem full_some {α : Type} : ∀ (d : Nat) (t : Bt α) (i : Nat),Full d t → ∃ a,t.get i = some a
 | 0,.l a,_,_ => ⟨a,rfl⟩
 | 0,.n _ _,_,h => h.elim
 | d + 1,.l _,_,h => h.elim
 | d + 1,.n x y,i,h => by
  show ∃ a,Bool.rec (x.get (Nat.div i 2)) (y.get (Nat.div i 2)) (Nat.beq (Nat.mod i 2) 1) = some a
  cases Nat.beq (Nat.mod i 2) 1
  ·exact full_some d x _ h.1
  ·exact full_some d y _ h.2
theorem Rg.get?_toL {r : Rg} (h : r.Ok) (i : Nat) : r.toL[i]? = r.get? i := by
 unfold Rg.toL
 rw [List.getElem?_map]
 unfold Rg.get?
 rw [blt_iff]
 by_cases hi : i < r.n
 ·rw [List.getElem?_range hi]
  obtain ⟨a,ha⟩ := full_some 9 r.t i h.1
  simp [hi,Rg.get,Rg.get?,blt_iff,ha]
 ·simp [hi]
theorem Rg.get_toL {r : Rg} (h : r.Ok) (i : Nat) : r.toL.getD i undefA = r.get i := by
 rw [List.getD_eq_getElem?_getD,Rg.get?_toL h]
 rfl
theorem Rg.set_ok {r : Rg} (h : r.Ok) (i : Nat) (v : AVal) : (r.set i v).Ok := by
 unfold Rg.set
 cases Nat.blt i r.n
 ·exact h
 ·exact ⟨full_set v 9 _ _ h.1,h.2⟩
theorem Rg.set_toL {r : Rg} (h : r.Ok) (i : Nat) (v : AVal) : (r.set i v).toL = r.toL.set i v := by
 apply List.ext_getElem?
 intro j
 rw [Rg.get?_toL (Rg.set_ok h i v),List.getElem?_set]
 have hlen : r.toL.length = r.n := by simp [Rg.toL]
 rw [Rg.get?_toL h,hlen]
 unfold Rg.set
 rw [blt_iff]
 by_cases hi : i < r.n
 ·simp only [hi,decide_true,cond_true,Rg.get?,blt_iff]
  by_cases hj : j < r.n
  ·simp only [hj,decide_true,cond_true]
   have h1 := h.2
   rw [get_set v 9 _ _ _ h.1 (by omega) (by omega)]
   split <;> simp_all
  ·simp only [hj,decide_false,cond_false]
   split
   ·omega
   ·rfl
 ·simp only [hi,decide_false,cond_false]
  split
  ·rename_i e
   subst e
   simp only [if_false,Rg.get?,blt_iff,hi,decide_false,cond_false]
  ·rfl
noncomputable def Rg.fill : List AVal → Nat → Rg → Rg
 | [],_,r => r
 | a :: as,i,r => Rg.fill as (i + 1) (r.set i a)
noncomputable def Rg.frame (args : List AVal) (n : Nat) : Rg := Rg.fill args 0 ⟨Bt.full undefA 9,n⟩
structure Hp where
 t : Bt (Option ABlk)
 n : Nat
noncomputable def Hp.get (h : Hp) (b : Nat) : Option (Option ABlk) := bif Nat.blt b h.n then h.t.get b else none
noncomputable def Hp.set (h : Hp) (b : Nat) (x : Option ABlk) : Hp := bif Nat.blt b h.n then ⟨h.t.set x b,h.n⟩ else h
noncomputable def Hp.push (h : Hp) (x : Option ABlk) : Option Hp := bif Nat.blt h.n 4096 then some ⟨h.t.set x h.n,h.n + 1⟩ else none
noncomputable def Hp.more (h : Hp) (k : Nat) : Option Hp := bif Nat.ble (h.n + k) 4096 then some ⟨h.t,h.n + k⟩ else none
noncomputable def Hp.toL (h : Hp) : Heap := (List.range h.n).map fun i => (h.t.get i).getD none
noncomputable def Hp.empty : Hp := ⟨Bt.full none 12,0⟩
def Hp.Ok (h : Hp) : Prop := Full 12 h.t ∧ h.n ≤ 4096 ∧ ∀ i,h.n ≤ i → i < 4096 → h.t.get i = some none
theorem Hp.length_toL (h : Hp) : h.toL.length = h.n := by simp [Hp.toL]
theorem Hp.get_toL {h : Hp} (ho : h.Ok) (b : Nat) : h.toL[b]? = h.get b := by
 unfold Hp.toL
 rw [List.getElem?_map]
 unfold Hp.get
 rw [blt_iff]
 by_cases hi : b < h.n
 ·rw [List.getElem?_range hi]
  obtain ⟨a,ha⟩ := full_some 12 h.t b ho.1
  simp [hi,ha]
 ·simp [hi]
theorem Hp.set_ok {h : Hp} (ho : h.Ok) (b : Nat) (x : Option ABlk) : (h.set b x).Ok := by
 unfold Hp.set
 rw [blt_iff]
 by_cases hb : b < h.n
 ·simp only [hb,decide_true,cond_true]
  refine ⟨full_set x 12 _ _ ho.1,ho.2.1,fun i h1 h2 => ?_⟩
  have := ho.2.1
  have h1 : h.n ≤ i := h1
  rw [get_set x 12 _ _ _ ho.1 (by omega) (by omega),if_neg (by omega)]
  exact ho.2.2 i h1 h2
 ·simp only [hb,decide_false,cond_false]
  exact ho
theorem Hp.set_toL {h : Hp} (ho : h.Ok) (b : Nat) (x : Option ABlk) : (h.set b x).toL = h.toL.set b x := by
 apply List.ext_getElem?
 intro j
 rw [Hp.get_toL (Hp.set_ok ho b x),List.getElem?_set,Hp.get_toL ho,Hp.length_toL]
 unfold Hp.set
 rw [blt_iff]
 by_cases hi : b < h.n
 ·simp only [hi,decide_true,cond_true,Hp.get,blt_iff]
  by_cases hj : j < h.n
  ·simp only [hj,decide_true,cond_true]
   have h1 := ho.2.1
   rw [get_set x 12 _ _ _ ho.1 (by omega) (by omega)]
   split <;> simp_all
  ·simp only [hj,decide_false,cond_false]
   split
   ·omega
   ·rfl
 ·simp only [hi,decide_false,cond_false]
  split
  ·rename_i e
   subst e
   simp only [if_false,Hp.get,blt_iff,hi,decide_false,cond_false]
  ·rfl
end Go.Am

/- A call that was run where nothing is one's own serves wherever its arguments lead to nothing of one's own: what was there stays. Generic: over any program. -/
namespace Go.Am
open Go.RowKit
mutual
def AVal.bare : AVal → Bool
 | .agg cs => baresA cs
 | .tup cs => baresA cs
 | .iface _ v => v.bare
 | .fn _ x y => baresA x && baresA y
 | .ptr _ _ => false
 | .sl _ _ _ _ _ _ => false
 | .mapr _ => false
 | _ => true
def baresA : List AVal → Bool
 | [] => true
 | a :: as => a.bare && baresA as
end
mutual
theorem bare_V {c c' : Cx} (h : Ext c.pure c'.pure) : ∀ (a : AVal) (v : Value),a.bare = true → V c a v → V c' a v
 | .bool b,v,_,hv => by simpa [V] using hv
 | .int k n,v,_,hv => by simpa [V] using hv
 | .str s,v,_,hv => by simpa [V] using hv
 | .agg cs,v,hb,hv => by
  simp only [V] at hv ⊢
  obtain ⟨vs,e,h1⟩ := hv
  exact ⟨vs,e,bares_V h cs vs hb h1⟩
 | .nilp,v,_,hv => by simpa [V] using hv
 | .ptr _ _,_,hb,_ => by simp [AVal.bare] at hb
 | .ipt cs,v,_,hv => by
  simp only [V] at hv ⊢
  obtain ⟨B,off,vs,e,hI,ha,hvs⟩ := hv
  exact ⟨B,off,vs,e,h.I _ hI,At.ext h hI ha,Vs_ext h cs vs hvs⟩
 | .eptr id cs,v,_,hv => by
  simp only [V] at hv ⊢
  obtain ⟨B,o,vs,hn,e1,e,hI,ha,hvs,ca,ta,hc⟩ := hv
  have ht : c'.θ = c.θ := h.θ
  rw [ht]
  exact ⟨B,o,vs,hn,e1,e,h.I _ hI,At.ext h hI ha,Vs_ext h cs vs hvs,ca,ta,by rw [show c'.w.heap[B]? = c.w.heap[B]? from h.kept _ hI]; exact hc⟩
 | .hnd b off,v,_,hv => by simpa [V] using hv
 | .nils,v,_,hv => by simpa [V] using hv
 | .list sz rows ex,v,_,hv => by
  simp only [V] at hv ⊢
  obtain ⟨a,cap,vs,e,hc,hx,hm,hvs⟩ := hv
  exact ⟨a,cap,vs,e,hc,hx,hm.imp_right fun k => ⟨k.1,h.I _ k.2.1,At.ext h k.2.1 k.2.2⟩,Vss_ext h sz rows vs hvs⟩
 | .sl _ _ _ _ _ _,_,hb,_ => by simp [AVal.bare] at hb
 | .nilm,v,_,hv => by simpa [V] using hv
 | .mapr _,_,hb,_ => by simp [AVal.bare] at hb
 | .fn f x y,v,hb,hv => by
  simp only [AVal.bare,Bool.and_eq_true] at hb
  simp only [V] at hv ⊢
  obtain ⟨vs,us,e,h1,h2⟩ := hv
  exact ⟨vs,us,e,bares_V h x vs hb.1 h1,bares_V h y us hb.2 h2⟩
 | .nilf,v,_,hv => by simpa [V] using hv
 | .iface t a,v,hb,hv => by
  simp only [V] at hv ⊢
  obtain ⟨u,e,hu⟩ := hv
  exact ⟨u,e,bare_V h a u hb hu⟩
 | .nili,v,_,hv => by simpa [V] using hv
 | .tup cs,v,hb,hv => by
  simp only [V] at hv ⊢
  obtain ⟨vs,e,h1⟩ := hv
  exact ⟨vs,e,bares_V h cs vs hb h1⟩
 | .junk,v,_,_ => by simp [V]
theorem bares_V {c c' : Cx} (h : Ext c.pure c'.pure) : ∀ (as : List AVal) (vs : List Value),baresA as = true → Vs c as vs → Vs c' as vs
 | [],vs,_,hv => by simpa [Vs] using hv
 | a :: as,vs,hb,hv => by
  simp only [baresA,Bool.and_eq_true] at hb
  simp only [Vs] at hv ⊢
  obtain ⟨v,us,e,h1,h2⟩ := hv
  exact ⟨v,us,e,bare_V h a v hb.1 h1,bares_V h as us hb.2 h2⟩
end
theorem pure_rel {c : Cx} {H : Heap} (hR : Rel c H) : Rel c.pure [] where
 blk := fun b blk h => by simp at h
 inj := fun b b' blk blk' B base base' h => by simp at h
 fresh := fun _ _ => rfl
 lt := hR.lt
theorem pure_pure (c : Cx) : Ext c.pure c.pure.pure := ⟨(fun _ _ h => by cases h),rfl,fun _ h => h,fun _ _ => rfl,fun _ _ _ h => h⟩
theorem glob_pure {S : AStat} {c : Cx} (hG : GlobOk S c) : GlobOk S c.pure := ⟨fun g cs hg => bare_V (pure_pure c) _ _ rfl (hG.v g cs hg),hG.t⟩
theorem pure_back {c : Cx} {H : Heap} (hR : Rel c H) {c1 : Cx} {H1 : Heap} (hT : Tr c.pure [] c1 H1) (hR1 : Rel c1 H1) (lo : Nat) {r : AVal} {v : Value} (hb : r.bare = true) (hv : V c1 r v) :
 ∃ c',c'.w = c1.w ∧ Rel c' H ∧ Tr c H c' H ∧ Low lo c H c' H ∧ V c' r v := by
 have hframe : ∀ B,B < c.w.heap.size → c1.w.heap[B]? = c.w.heap[B]? := fun B hB => hT.frame B hB (fun ⟨b,blk,base,h,_⟩ => by simp at h)
 let c' : Cx := { c with w := c1.w,I := fun B => c.I B ∨ (c.w.heap.size ≤ B ∧ c1.I B) }
 have hext : Ext c c' := ⟨fun _ _ h => h,rfl,fun _ h => .inl h,fun B hB => hframe B (hR.lt B hB),fun B t n h => by
  have hlt : B < c.w.heap.size := by
   rcases Nat.lt_or_ge B c.w.heap.size with h1 | h1
   ·exact h1
   ·simp [World.shape?,Array.getElem?_eq_none h1] at h
  show c1.w.shape? B = _
  rw [shape_of_block (w := c.w) (hframe B hlt)]
  exact h⟩
 refine ⟨c',rfl,⟨?_,hR.inj,hR.fresh, ?_⟩,⟨hext,hT.size,fun B hB _ => hframe B hB,fun B _ h => h, ?_,hT.os,hT.tape,hT.output⟩,⟨?_,fun _ _ h => h,Nat.le_refl _⟩, ?_⟩
 ·intro b blk hb
  obtain ⟨B,base,h1,h2,h3,h4⟩ := hR.blk b blk hb
  refine ⟨B,base,h1, ?_,Nat.lt_of_lt_of_le h3 hT.size,h4.ext hext (hframe B h3)⟩
  rintro (h | ⟨h,_⟩)
  ·exact h2 h
  ·omega
 ·rintro B (h | ⟨_,h⟩)
  ·exact Nat.lt_of_lt_of_le (hR.lt B h) hT.size
  ·exact hR1.lt B h
 ·rintro B hB (h | ⟨h,_⟩)
  ·exact .inl h
  ·omega
 ·intro b blk _ hH
  refine ⟨hH,fun B base hi => ?_⟩
  obtain ⟨B',base',h1,_,h2,_⟩ := hR.blk b blk hH
  rw [hi] at h1
  simp only [Option.some.injEq,Prod.mk.injEq] at h1
  obtain ⟨rfl,rfl⟩ := h1
  exact hframe _ h2
 ·refine bare_V (c := c1) (c' := c') ⟨(fun _ _ h => by cases h),hT.ext.θ.symm, ?_,fun _ _ => rfl,fun _ _ _ h => h⟩ r v hb hv
  intro B hB
  rcases Nat.lt_or_ge B c.w.heap.size with h | h
  ·rcases hT.imm B h hB with h1 | ⟨b,blk,base,h1,_⟩
   ·exact .inl h1
   ·simp at h1
  ·exact .inr ⟨h,hB⟩
theorem lift_bare {S : AStat} {f : FuncId} {av : List AVal} {r : AVal} (ha : baresA av = true) (hr : r.bare = true)
 (h : ∀ c vs,Rel c [] → GlobOk S c → Vs c av vs → ∃ H1,Calls S.P f vs.toArray c.w (CallPost 0 c [] r H1)) :
 ∀ lo c H vs,Rel c H → GlobOk S c → Vs c av vs → Calls S.P f vs.toArray c.w (CallPost lo c H r H) := by
 intro lo c H vs hR hG hv
 obtain ⟨H1,h1⟩ := h c.pure vs (pure_rel hR) (glob_pure hG) (bares_V (pure_pure c) _ _ ha hv)
 refine h1.mono fun e w' hp => ?_
 obtain ⟨v,c1,rfl,rfl,g1,g2,_,g3⟩ := hp
 obtain ⟨c',e1,k1,k2,k3,k4⟩ := pure_back hR g2 g1 lo hr g3
 exact ⟨v,c',rfl,e1,k1,k2,k3,k4⟩
theorem lift_run {S : AStat} (hS : StatOk S) {f : FuncId} {av : List AVal} {r : AVal} (ha : baresA av = true) (hr : r.bare = true) {n : Nat} {H1 : Heap} (h : runA S n 0 f av [] = some (r,H1)) :
 ∀ lo c H vs,Rel c H → GlobOk S c → Vs c av vs → (∃ fn,S.P.funcs[f]? = some fn ∧ fn.body.isSome = true) ∧ Calls S.P f vs.toArray c.w (CallPost lo c H r H) := by
 intro lo c H vs hR hG hv
 refine ⟨(runA_ok hS n 0 f av [] _ _ h c.pure vs (pure_rel hR) (glob_pure hG) (bares_V (pure_pure c) _ _ ha hv)).1, ?_⟩
 exact lift_bare ha hr (fun c vs h1 h2 h3 => ⟨H1,(runA_ok hS n 0 f av [] _ _ h c vs h1 h2 h3).2⟩) lo c H vs hR hG hv
end Go.Am

/- What a law's arguments are, read by their types: as idealised values. Generic: over any program. -/
namespace Go.Am
open Go.RowKit
inductive Ty where
 | bool
 | int (k : IntKind)
 | str
 | slice (e : Ty)
 | row (fs : List Ty)
mutual
def Ty.size : Ty → Nat
 | .row fs => sizes fs
 | .bool => 1
 | .int _ => 1
 | .str => 1
 | .slice _ => 1
def sizes : List Ty → Nat
 | [] => 0
 | t :: ts => t.size + sizes ts
end
mutual
def Ty.Is : Ty → List AVal → Prop
 | .bool,cs => ∃ b,cs = [.bool b]
 | .int k,cs => ∃ n,cs = [.int k n] ∧ k.min ≤ n ∧ n ≤ k.max
 | .str,cs => ∃ s : List UInt8,cs = [.str s] ∧ s.length ≤ maxLen
 | .slice e,cs => cs = [.nils] ∨ ∃ rows ex,cs = [.list e.size rows ex] ∧ rows.length ≤ maxLen ∧ ∀ r ∈ rows,e.Is r
 | .row fs,cs => IsL fs cs
def IsL : List Ty → List AVal → Prop
 | [],cs => cs = []
 | t :: ts,cs => ∃ a b,cs = a ++ b ∧ t.Is a ∧ IsL ts b
end
mutual
def Ty.ok (P : Program) : Ty → TypeId → Bool
 | .bool,t => match P.underlying t with | some .bool => true | _ => false
 | .int k,t => match P.underlying t with | some (.int k') => decide (k' = k) | _ => false
 | .str,t => match P.underlying t with | some .string => true | _ => false
 | .slice e,t => match P.underlying t with | some (.slice u) => e.ok P u && P.cellsOf u == e.size && Nat.blt 0 e.size | _ => false
 | .row fs,t =>
  match P.underlying t with
  | some (.struct gs) => P.cellsOf t == sizes fs && okL P fs (gs.toList.map fun g => (g.type,g.offset)) 0
  | some (.array n e) => P.cellsOf t == sizes fs && okL P fs ((List.range n).map fun i => (e,i * P.cellsOf e)) 0
  | _ => false
def okL (P : Program) : List Ty → List (TypeId × Nat) → Nat → Bool
 | [],[],_ => true
 | t :: ts,u :: us,o => t.ok P u.1 && u.2 == o && P.cellsOf u.1 == t.size && okL P ts us (o + t.size)
 | [],_ :: _,_ => false
 | _ :: _,[],_ => false
end
theorem addr_add_add (a : Addr) (m n : Nat) : (a.add m).add n = a.add (m + n) := by
 unfold Addr.add
 by_cases hm : m = 0
 ·subst hm; simp
 ·by_cases hn : n = 0
  ·subst hn; simp
  ·have : m + n ≠ 0 := by omega
   simp [hm,hn,Nat.add_assoc]
section
variable {P : Program} {H : Type} {enc : TypeId × Value → H} {W : World} {θ : List (Nat × Nat)} {sp : Nat → Bool} {held : Bool}
theorem cell_lt {a : Addr} {v : Value} (h : W.cell? a = some v) : a.spot = none ∧ a.block < W.heap.size := by
 unfold World.cell? at h
 split at h
 ·rename_i hb
  split at h
  ·cases h
  ·rename_i hs
   refine ⟨by simpa using hs, ?_⟩
   rcases Nat.lt_or_ge a.block W.heap.size with h1 | h1
   ·exact h1
   ·rw [Array.getElem?_eq_none h1] at hb; cases hb
 ·cases h
theorem rows_reads {e : TypeId} {sz : Nat} {Q : List AVal → Prop} {a : Addr} {len m : Nat}
 (ih : ∀ cs x,DataW.trod enc P W 0 sp held m e cs = some x → ∃ as,Vs (cx0 W θ) as cs ∧ Q as)
 (h : ∀ i,i < len → ∃ y,(W.cells? 0 (a.add (i * sz)) sz).bind (DataW.trod enc P W 0 sp held m e) = some y) :
 ∀ n i,i + n = len → ∃ rows vs,rows.length = n ∧ Vss (cx0 W θ) sz rows vs ∧ (∀ r ∈ rows,Q r) ∧ ∀ j v,vs[j]? = some v → W.cell? (a.add (i * sz + j)) = some v := by
 intro n
 induction n with
 | zero => intro i _; exact ⟨[],[],rfl,by simp [Vss],by simp,by simp⟩
 | succ n ihn =>
  intro i hi
  obtain ⟨rows,vs,h1,h2,h3,h4⟩ := ihn (i + 1) (by omega)
  obtain ⟨y,hy⟩ := h i (by omega)
  rw [Option.bind_eq_some_iff] at hy
  obtain ⟨cs,hc,ht⟩ := hy
  obtain ⟨_,hl,hcell⟩ := World.cells?_some hc
  obtain ⟨as,h5,h6⟩ := ih cs y ht
  refine ⟨as :: rows,cs ++ vs,by simp [h1], ?_, ?_, ?_⟩
  ·simp only [Vss]
   exact ⟨cs,vs,rfl,hl,h5,h2⟩
  ·intro r hr
   rcases List.mem_cons.1 hr with rfl | hr
   ·exact h6
   ·exact h3 r hr
  ·intro j v hj
   rcases Nat.lt_or_ge j sz with hlt | hge
   ·rw [List.getElem?_append_left (by omega)] at hj
    rw [← addr_add_add,hcell j hlt,hj]
   ·rw [List.getElem?_append_right (by omega),hl] at hj
    have := h4 (j - sz) v hj
    rw [show i * sz + j = (i + 1) * sz + (j - sz) by rw [Nat.add_mul]; omega]
    exact this
mutual
theorem ty_reads : ∀ (ty : Ty) {fuel : Nat} {t : TypeId} {cs : List Value} {x : DataW H × List MemPlace},ty.ok P t = true → DataW.trod enc P W 0 sp held fuel t cs = some x →
 ∃ as,Vs (cx0 W θ) as cs ∧ ty.Is as ∧ as.length = ty.size
 | .bool,fuel,t,cs,x,ho,h => by
  simp only [Ty.ok] at ho
  split at ho
  ·rename_i ht
   obtain ⟨b,rfl,_⟩ := DataW.trod_bool ht h
   exact ⟨[.bool b],by simp [Vs,V],⟨b,rfl⟩,rfl⟩
  ·cases ho
 | .int k,fuel,t,cs,x,ho,h => by
  simp only [Ty.ok] at ho
  split at ho
  ·rename_i k' ht
   simp only [decide_eq_true_eq] at ho
   subst ho
   obtain ⟨n,rfl,_,hw⟩ := DataW.trod_int ht h
   simp only [Lit.wf,Bool.and_eq_true,decide_eq_true_eq] at hw
   exact ⟨[.int k' n],by simp [Vs,V],⟨n,rfl,hw⟩,rfl⟩
  ·cases ho
 | .str,fuel,t,cs,x,ho,h => by
  simp only [Ty.ok] at ho
  split at ho
  ·rename_i ht
   obtain ⟨s,rfl,_,hs⟩ := DataW.trod_string ht h
   refine ⟨[.str s.data.toList],by simp [Vs,V],⟨_,rfl, ?_⟩,rfl⟩
   have : s.data.toList.length = s.size := Array.length_toList
   omega
  ·cases ho
 | .slice e,fuel,t,cs,x,ho,h => by
  simp only [Ty.ok] at ho
  split at ho
  ·rename_i u ht
   simp only [Bool.and_eq_true,beq_iff_eq] at ho
   obtain ⟨⟨ho,hsz⟩,hpos⟩ := ho
   rcases DataW.trod_slice ht h with ⟨rfl,_⟩ | ⟨a,len,cap,elems,rest,m,rfl,rfl,_,_,hlc,hcm,hel,hall,_⟩
   ·exact ⟨[.nils],by simp [Vs,V],.inl rfl,rfl⟩
   ·obtain ⟨rows,vs,h1,h2,h3,h4⟩ := rows_reads (θ := θ) (Q := e.Is) (a := a) (len := len) (sz := P.cellsOf u) (fun cs x hx => by
     obtain ⟨as,g1,g2,_⟩ := ty_reads e ho hx
     exact ⟨as,g1,g2⟩) (fun i hi => ⟨elems[i],by rw [hall i hi]; exact List.getElem?_eq_getElem (by omega)⟩) len 0 (by omega)
    subst h1
    refine ⟨[.list e.size rows (decide (cap = rows.length))], ?_,.inr ⟨rows,_,rfl,by omega,h3⟩,rfl⟩
    simp only [Vs]
    refine ⟨_,[],rfl, ?_,rfl⟩
    simp only [V]
    rw [← hsz]
    refine ⟨a,cap,vs,rfl,hlc,by simp, ?_,h2⟩
    cases rows with
    | nil => exact .inl rfl
    | cons r rows =>
     right
     have hne : ∃ v,vs[0]? = some v := by
      have := Vss_length h2
      have hp : 0 < e.size := by simpa [Nat.blt_eq] using hpos
      simp only [List.length_cons,Nat.add_mul,hsz] at this
      exact ⟨vs[0],List.getElem?_eq_getElem (by omega)⟩
     obtain ⟨v,hv⟩ := hne
     have h0 := h4 0 v hv
     simp only [Nat.zero_mul,Nat.zero_add] at h0
     have hs := cell_lt h0
     have ha0 : a.add 0 = a := by simp [Addr.add]
     rw [ha0] at hs
     refine ⟨hs.1,hs.2,fun j v hj => ?_⟩
     have := h4 j v hj
     simp only [Nat.zero_mul,Nat.zero_add] at this
     obtain ⟨B,o,s⟩ := a
     obtain rfl : s = none := hs.1
     rw [add_plain] at this
     exact this
  ·cases ho
 | .row fs,fuel,t,cs,x,ho,h => by
  simp only [Ty.ok] at ho
  split at ho
  ·rename_i gs ht
   simp only [Bool.and_eq_true,beq_iff_eq] at ho
   obtain ⟨xs,n,rfl,_,hl,hx,hall⟩ := DataW.trod_struct ht h
   have := tys_reads fs (cs := cs) (fuel := n) ho.2 (fun i u hu => by
    rw [List.getElem?_map,Option.map_eq_some_iff] at hu
    obtain ⟨f,hf,rfl⟩ := hu
    rw [Array.getElem?_toList] at hf
    have hi : i < xs.length := by
     rw [hx]
     rcases Nat.lt_or_ge i gs.size with h1 | h1
     ·exact h1
     ·rw [Array.getElem?_eq_none h1] at hf; cases hf
    exact ⟨xs[i],by rw [hall i f hf]; exact List.getElem?_eq_getElem hi⟩) (by omega)
   simp only [List.drop_zero] at this
   obtain ⟨as,h1,h2,h3⟩ := this
   exact ⟨as,h1,h2,h3⟩
  ·rename_i n e ht
   simp only [Bool.and_eq_true,beq_iff_eq] at ho
   obtain ⟨xs,m,rfl,_,hl,hx,hall⟩ := DataW.trod_array ht h
   have := tys_reads fs (cs := cs) (fuel := m) ho.2 (fun i u hu => by
    rw [List.getElem?_map,Option.map_eq_some_iff] at hu
    obtain ⟨j,hj,rfl⟩ := hu
    have hj' : j < n := List.mem_range.1 (List.mem_of_getElem? hj)
    replace hj := hj'
    exact ⟨xs[j],by rw [hall j hj]; exact List.getElem?_eq_getElem (by omega)⟩) (by omega)
   simp only [List.drop_zero] at this
   obtain ⟨as,h1,h2,h3⟩ := this
   exact ⟨as,h1,h2,h3⟩
  ·cases ho
theorem tys_reads : ∀ (ts : List Ty) {fuel : Nat} {us : List (TypeId × Nat)} {o : Nat} {cs : List Value},okL P ts us o = true →
 (∀ (i : Nat) (u : TypeId × Nat),us[i]? = some u → ∃ y,DataW.trod enc P W 0 sp held fuel u.1 ((cs.drop u.2).take (P.cellsOf u.1)) = some y) → cs.length = o + sizes ts →
 ∃ as,Vs (cx0 W θ) as (cs.drop o) ∧ IsL ts as ∧ as.length = sizes ts
 | [],fuel,us,o,cs,_,_,hl => by
  refine ⟨[], ?_,rfl,rfl⟩
  simp only [Vs]
  simp only [sizes] at hl
  exact List.drop_eq_nil_of_le (by omega)
 | t :: ts,fuel,[],o,cs,ho,_,_ => by simp [okL] at ho
 | t :: ts,fuel,u :: us,o,cs,ho,h,hl => by
  simp only [okL,Bool.and_eq_true,beq_iff_eq] at ho
  obtain ⟨⟨⟨h1,h2⟩,h3⟩,h4⟩ := ho
  obtain ⟨y,hy⟩ := h 0 u rfl
  obtain ⟨as,g1,g2,g3⟩ := ty_reads t h1 hy
  simp only [sizes] at hl
  obtain ⟨bs,k1,k2,k3⟩ := tys_reads ts (cs := cs) h4 (fun i u hu => h (i + 1) u hu) (by omega)
  refine ⟨as ++ bs, ?_,⟨as,bs,rfl,g2,k2⟩,by simp [g3,k3,sizes]⟩
  rw [h2,h3] at g1
  have e : cs.drop o = (cs.drop o).take t.size ++ cs.drop (o + t.size) := by rw [← List.drop_drop,List.take_append_drop]
  rw [e]
  exact Vs_append g1 k1
end
theorem arg_one {ty : Ty} {t : TypeId} {v : Value} {d : DataW H} {ps : List MemPlace} {base : Nat} {r : Reach} (hn : ∀ fs,ty ≠ .row fs) (ho : ty.ok P t = true) (hv : Value.okWide P W r base t v)
 (h : DataW.Trod enc P W 0 sp held t v d ps) : ∃ a,V (cx0 W θ) a v ∧ ty.Is [a] := by
 obtain ⟨fuel,h⟩ := h
 have hagg : ∀ cs,v ≠ .agg cs := by
  rintro cs rfl
  unfold Value.okWide at hv
  cases ty with
  | row fs => exact hn fs rfl
  | bool =>
   simp only [Ty.ok] at ho
   split at ho
   ·rename_i ht; rw [ht] at hv; simp [Cell.okWide,Cell.ok,ht] at hv
   ·cases ho
  | int k =>
   simp only [Ty.ok] at ho
   split at ho
   ·rename_i ht; rw [ht] at hv; simp [Cell.okWide,Cell.ok,ht] at hv
   ·cases ho
  | str =>
   simp only [Ty.ok] at ho
   split at ho
   ·rename_i ht; rw [ht] at hv; simp [Cell.okWide,Cell.ok,ht] at hv
   ·cases ho
  | slice e =>
   simp only [Ty.ok] at ho
   split at ho
   ·rename_i ht; rw [ht] at hv; simp [Cell.okWide,Cell.ok,ht] at hv
   ·cases ho
 have hc : v.cells.toList = [v] := by
  cases v <;> first | rfl | exact (hagg _ rfl).elim
 rw [hc] at h
 obtain ⟨as,h1,h2,h3⟩ := ty_reads (θ := θ) ty ho h
 have : ∃ a,as = [a] := by
  have hl := Vs_length h1
  match as,hl with
  | [a],_ => exact ⟨a,rfl⟩
 obtain ⟨a,rfl⟩ := this
 simp only [Vs] at h1
 obtain ⟨_,_,e,h1,rfl⟩ := h1
 simp only [List.cons.injEq,and_true] at e
 subst e
 exact ⟨a,h1,h2⟩
end
end Go.Am

/- Symbolic values and memory: what a run over lists of any length is seen as; what it means that an idealised state is of such a shape. Generic: over any program. -/
namespace Go.Sy
open Go.Am
inductive SV (T : Nat → Type) where
 | a (v : AVal)
 | i (k : IntKind) (n : Int)
 | b (x : Bool)
 | s (x : List UInt8)
 | agg (cs : List (SV T))
 | tup (cs : List (SV T))
 | iface (t : TypeId) (v : SV T)
 | fn (f : Fn) (first captured : List (SV T))
 | ptr (id off : Nat)
 | ep (id : Nat) (i : Int) (off : Nat)
 | sl (sz id off len cap : Nat) (ex : Bool)
 | R (id : Nat)
 | mapr (id : Nat)
 | fp (cs : List (SV T))
 | tl (n : Nat) (l : List (T n))
 | any
structure Codec where
 T : Nat → Type
 sz : Nat → Nat
 enc : (n : Nat) → T n → List (SV T)
 dec : (n : Nat) → List (SV T) → Option (T n)
 dflt : (n : Nat) → T n
 ofTy : TypeId → Option Nat
 shape : Nat → List (Option Nat)
 flat : Nat → Bool
 bytes : (n : Nat) → Option (List (T n) → List UInt8)
def Codec.at (C : Codec) (n : Nat) (l : List (C.T n)) (i : Int) : C.T n := l.getD i.toNat (C.dflt n)
structure Env where
 β : Nat → Option Nat
 γ : Nat → Option AVal
 ω : Nat → Option Nat
 Fr : Nat → List AVal → Prop
def isSlB : AVal → Bool
 | .nils => true
 | .sl _ _ _ _ _ _ => true
 | .list _ _ _ => true
 | _ => false
variable {C : Codec}
inductive Er (E : Env) : SV C.T → AVal → Prop
 | a (v : AVal) : Er E (.a v) v
 | i (k : IntKind) (n : Int) : Er E (.i k n) (.int k n)
 | b (x : Bool) : Er E (.b x) (.bool x)
 | s (x : List UInt8) : Er E (.s x) (.str x)
 | agg {cs : List (SV C.T)} {as : List AVal} : cs.length = as.length → (∀ (i : Nat) (x : SV C.T) (a : AVal),cs[i]? = some x → as[i]? = some a → Er E x a) → Er E (.agg cs) (.agg as)
 | tup {cs : List (SV C.T)} {as : List AVal} : cs.length = as.length → (∀ (i : Nat) (x : SV C.T) (a : AVal),cs[i]? = some x → as[i]? = some a → Er E x a) → Er E (.tup cs) (.tup as)
 | iface {t : TypeId} {x : SV C.T} {a : AVal} : Er E x a → Er E (.iface t x) (.iface t a)
 | fn {f : Fn} {cs ds : List (SV C.T)} {as bs : List AVal} : cs.length = as.length → (∀ (i : Nat) (x : SV C.T) (a : AVal),cs[i]? = some x → as[i]? = some a → Er E x a) →
  ds.length = bs.length → (∀ (i : Nat) (x : SV C.T) (a : AVal),ds[i]? = some x → bs[i]? = some a → Er E x a) → Er E (.fn f cs ds) (.fn f as bs)
 | ptr {id b off : Nat} : E.β id = some b → Er E (.ptr id off) (.ptr b off)
 | ep {id : Nat} {i : Int} {off z b o len cap : Nat} {ex : Bool} : E.γ id = some (.sl z b o len cap ex) → Er E (.ep id i off) (.ptr b (o + i.toNat * z + off))
 | sl {sz id b off len cap : Nat} {ex : Bool} : E.β id = some b → Er E (.sl sz id off len cap ex) (.sl sz b off len cap ex)
 | R {id : Nat} {a : AVal} : E.γ id = some a → isSlB a = true → Er E (.R id) a
 | mapr {id b : Nat} : E.β id = some b → Er E (.mapr id) (.mapr b)
 | fpI {cs : List (SV C.T)} {as all rest : List AVal} : all = as ++ rest → cs.length = as.length → (∀ (i : Nat) (x : SV C.T) (a : AVal),cs[i]? = some x → as[i]? = some a → Er E x a) → Er E (.fp cs) (.ipt all)
 | fpP {cs : List (SV C.T)} {as all rest : List AVal} {b off : Nat} : E.Fr b all → all.drop off = as ++ rest → cs.length = as.length → (∀ (i : Nat) (x : SV C.T) (a : AVal),cs[i]? = some x → as[i]? = some a → Er E x a) → Er E (.fp cs) (.ptr b off)
 | tlN {n : Nat} : Er E (.tl n []) .nils
 | tlL {n z : Nat} {l : List (C.T n)} {rows : List (List AVal)} {ex : Bool} : z = C.sz n → rows.length = l.length → (∀ (i : Nat) (r : List AVal),rows[i]? = some r → r.length = C.sz n) →
  (∀ (i : Nat) (y : C.T n) (r : List AVal) (j : Nat) (x : SV C.T) (a : AVal),l[i]? = some y → rows[i]? = some r → (C.enc n y)[j]? = some x → r[j]? = some a → Er E x a) → Er E (.tl n l) (.list z rows ex)
 | tlS {n z b off len cap : Nat} {l : List (C.T n)} {as : List AVal} {ex : Bool} : z = C.sz n → len = l.length → E.Fr b as → off + l.length * C.sz n ≤ as.length → l.length ≤ cap →
  (∀ (i : Nat) (y : C.T n) (j : Nat) (x : SV C.T) (a : AVal),l[i]? = some y → (C.enc n y)[j]? = some x → as[off + i * C.sz n + j]? = some a → Er E x a) → Er E (.tl n l) (.sl z b off len cap ex)
 | any {a : AVal} : Er E .any a
def Ers (E : Env) (cs : List (SV C.T)) (as : List AVal) : Prop := cs.length = as.length ∧ ∀ (i : Nat) (x : SV C.T) (a : AVal),cs[i]? = some x → as[i]? = some a → Er E x a
structure Env.le (E E' : Env) : Prop where
 β : ∀ id b,E.β id = some b → E'.β id = some b
 γ : ∀ id a,E.γ id = some a → E'.γ id = some a
 ω : ∀ b r,E.ω b = some r → E'.ω b = some r
 Fr : ∀ b cs,E.Fr b cs → E'.Fr b cs
theorem Env.le.refl (E : Env) : E.le E := ⟨fun _ _ h => h,fun _ _ h => h,fun _ _ h => h,fun _ _ h => h⟩
theorem Env.le.trans {E E' E'' : Env} (h : E.le E') (k : E'.le E'') : E.le E'' :=
 ⟨fun _ _ x => k.β _ _ (h.β _ _ x),fun _ _ x => k.γ _ _ (h.γ _ _ x),fun _ _ x => k.ω _ _ (h.ω _ _ x),fun _ _ x => k.Fr _ _ (h.Fr _ _ x)⟩
theorem Er.mono' {E E' : Env} (hβ : ∀ id b,E.β id = some b → E'.β id = some b) (hγ : ∀ id a,E.γ id = some a → E'.γ id = some a) (hF : ∀ b cs,E.Fr b cs → E'.Fr b cs)
 {x : SV C.T} {a : AVal} (h : Er E x a) : Er E' x a := by
 induction h with
 | a v => exact .a v
 | i k n => exact .i k n
 | b x => exact .b x
 | s x => exact .s x
 | agg hl _ ih => exact .agg hl ih
 | tup hl _ ih => exact .tup hl ih
 | iface _ ih => exact .iface ih
 | fn h1 _ h2 _ ih1 ih2 => exact .fn h1 ih1 h2 ih2
 | ptr h => exact .ptr (hβ _ _ h)
 | ep h => exact .ep (hγ _ _ h)
 | sl h => exact .sl (hβ _ _ h)
 | R h hs => exact .R (hγ _ _ h) hs
 | mapr h => exact .mapr (hβ _ _ h)
 | fpI e hl _ ih => exact .fpI e hl ih
 | fpP hf e hl _ ih => exact .fpP (hF _ _ hf) e hl ih
 | tlN => exact .tlN
 | tlL hz hl hr _ ih => exact .tlL hz hl hr ih
 | tlS hz hl hf ho hc _ ih => exact .tlS hz hl (hF _ _ hf) ho hc ih
 | any => exact .any
theorem Er.mono {E E' : Env} (k : E.le E') {x : SV C.T} {a : AVal} (h : Er E x a) : Er E' x a := h.mono' k.β k.γ k.Fr
theorem Ers.mono {E E' : Env} (k : E.le E') {xs : List (SV C.T)} {as : List AVal} (h : Ers E xs as) : Ers E' xs as := ⟨h.1,fun i x a h1 h2 => (h.2 i x a h1 h2).mono k⟩
theorem Ers.nil {E : Env} : Ers E ([] : List (SV C.T)) [] := ⟨rfl,fun _ _ _ h => by simp at h⟩
theorem Ers.cons {E : Env} {x : SV C.T} {a : AVal} {xs : List (SV C.T)} {as : List AVal} (h : Er E x a) (hs : Ers E xs as) : Ers E (x :: xs) (a :: as) := by
 refine ⟨by simp [hs.1],fun i y b h1 h2 => ?_⟩
 cases i with
 | zero => simp at h1 h2; subst h1 h2; exact h
 | succ i => simp at h1 h2; exact hs.2 i y b h1 h2
theorem Ers.inv_cons {E : Env} {x : SV C.T} {xs : List (SV C.T)} {as : List AVal} (h : Ers E (x :: xs) as) : ∃ a as',as = a :: as' ∧ Er E x a ∧ Ers E xs as' := by
 cases as with
 | nil => simp [Ers] at h
 | cons a as' =>
  refine ⟨a,as',rfl,h.2 0 x a rfl rfl,by simpa using h.1,fun i y b h1 h2 => h.2 (i + 1) y b (by simpa using h1) (by simpa using h2)⟩
theorem Ers.inv_nil {E : Env} {as : List AVal} (h : Ers E ([] : List (SV C.T)) as) : as = [] := by
 cases as with
 | nil => rfl
 | cons a as => simp [Ers] at h
theorem Ers.append {E : Env} {xs ys : List (SV C.T)} {as bs : List AVal} (h : Ers E xs as) (k : Ers E ys bs) : Ers E (xs ++ ys) (as ++ bs) := by
 induction xs generalizing as with
 | nil => rw [h.inv_nil]; exact k
 | cons x xs ih =>
  obtain ⟨a,as',rfl,h1,h2⟩ := h.inv_cons
  exact (ih h2).cons h1
theorem Ers.drop {E : Env} {xs : List (SV C.T)} {as : List AVal} (h : Ers E xs as) (n : Nat) : Ers E (xs.drop n) (as.drop n) :=
 ⟨by simp [h.1],fun i x a h1 h2 => h.2 (n + i) x a (by simpa using h1) (by simpa using h2)⟩
theorem Ers.take {E : Env} {xs : List (SV C.T)} {as : List AVal} (h : Ers E xs as) (n : Nat) : Ers E (xs.take n) (as.take n) := by
 refine ⟨by simp [h.1],fun i x a h1 h2 => ?_⟩
 rw [List.getElem?_take] at h1 h2
 split at h1
 ·rename_i hi
  rw [if_pos hi] at h2
  exact h.2 i x a h1 h2
 ·cases h1
theorem Ers.get {E : Env} {xs : List (SV C.T)} {as : List AVal} (h : Ers E xs as) {i : Nat} {x : SV C.T} (hx : xs[i]? = some x) : ∃ a,as[i]? = some a ∧ Er E x a := by
 have hl : i < xs.length := by
  rcases Nat.lt_or_ge i xs.length with k | k
  ·exact k
  ·rw [List.getElem?_eq_none k] at hx; cases hx
 have hl' : i < as.length := by rw [← h.1]; exact hl
 exact ⟨as[i],List.getElem?_eq_getElem hl',h.2 i x _ hx (List.getElem?_eq_getElem hl')⟩
theorem Ers.mapA {E : Env} (as : List AVal) : Ers (C := C) E (as.map .a) as := by
 refine ⟨by simp,fun i x a h1 h2 => ?_⟩
 rw [List.getElem?_map,h2] at h1
 simp only [Option.map_some,Option.some.injEq] at h1
 subst h1
 exact .a a
inductive Obj (T : Nat → Type) where
 | cells (cs : List (SV T))
 | rows (n : Nat) (l : List (T n)) (full : Bool) (root : Nat)
 | mp (es : List (Int × SV T))
 | it (s : List UInt8) (pos : Nat)
abbrev SH (C : Codec) := List (Option (Obj C.T))
def RowsAt (E : Env) (n : Nat) (l : List (C.T n)) (as : List AVal) (off : Nat) : Prop :=
 ∀ (i : Nat) (y : C.T n) (j : Nat) (x : SV C.T) (a : AVal),l[i]? = some y → (C.enc n y)[j]? = some x → as[off + i * C.sz n + j]? = some a → Er E x a
def mpAt (n : Int) : List (AVal × AVal) → Option AVal
 | [] => none
 | (.int .i64 m,v) :: es => if n = m then some v else mpAt n es
 | _ :: es => mpAt n es
structure MpOk (E : Env) (es : List (Int × SV C.T)) (as : List (AVal × AVal)) : Prop where
 keys : ∀ p,p ∈ as → ∃ n,p.1 = .int .i64 n
 nodup : (es.map (·.1)).Nodup
 val : ∀ n x,(n,x) ∈ es → (∃ v,mpAt n as = some v ∧ Er E x v) ∨ (mpAt n as = none ∧ Er E x .nils)
 dom : ∀ n v,mpAt n as = some v → ∃ x,(n,x) ∈ es
theorem MpOk.mono {E E' : Env} (k : E.le E') {es : List (Int × SV C.T)} {as : List (AVal × AVal)} (h : MpOk E es as) : MpOk E' es as :=
 ⟨h.keys,h.nodup,fun n x hx => (h.val n x hx).imp (fun ⟨v,h1,h2⟩ => ⟨v,h1,h2.mono k⟩) (fun ⟨h1,h2⟩ => ⟨h1,h2.mono k⟩),h.dom⟩
def EmptyA (E : Env) (z : Nat) (a : AVal) : Prop := a = .nils ∨ a = .list z [] true
def ObjOk (E : Env) (H : Heap) (id : Nat) : Obj C.T → Prop
 | .cells cs => ∃ b as,E.β id = some b ∧ E.ω b = some id ∧ H[b]? = some (some (.cells as)) ∧ Ers E cs as
 | .mp es => ∃ b as,E.β id = some b ∧ E.ω b = some id ∧ H[b]? = some (some (.mp as)) ∧ MpOk E es as
 | .it s pos => ∃ b,E.β id = some b ∧ E.ω b = some id ∧ H[b]? = some (some (.it s pos))
 | .rows n l full root => (l = [] ∧ E.β id = none ∧ ∃ a,E.γ id = some a ∧ EmptyA E (C.sz n) a) ∨
  ∃ b off cap ex as,E.γ id = some (.sl (C.sz n) b off l.length cap ex) ∧ E.β id = some b ∧ E.ω b = some root ∧ H[b]? = some (some (.cells as)) ∧ l.length ≤ cap ∧ off + cap * C.sz n ≤ as.length ∧
   (ex = true ∨ off + cap * C.sz n = as.length) ∧ (full = true → ex = true ∨ cap = l.length) ∧ RowsAt E n l as off
theorem ObjOk.mono {E E' : Env} (k : E.le E') {H : Heap} {id : Nat} {o : Obj C.T} (hb : E.β id = none → E'.β id = none) (h : ObjOk E H id o) : ObjOk E' H id o := by
 cases o with
 | cells cs =>
  obtain ⟨b,as,h1,hw,h2,h3⟩ := h
  exact ⟨b,as,k.β _ _ h1,k.ω _ _ hw,h2,h3.mono k⟩
 | mp es =>
  obtain ⟨b,as,h1,hw,h2,h3⟩ := h
  exact ⟨b,as,k.β _ _ h1,k.ω _ _ hw,h2,h3.mono k⟩
 | it s pos =>
  obtain ⟨b,h1,hw,h2⟩ := h
  exact ⟨b,k.β _ _ h1,k.ω _ _ hw,h2⟩
 | rows n l full root =>
  rcases h with ⟨h1,h2,a,h3,h4⟩ | ⟨b,off,cap,ex,as,h1,h2,hw,h3,h4,h5,h6,h7,h8⟩
  ·refine .inl ⟨h1,hb h2,a,k.γ _ _ h3, ?_⟩
   exact h4
  ·exact .inr ⟨b,off,cap,ex,as,k.γ _ _ h1,k.β _ _ h2,k.ω _ _ hw,h3,h4,h5,h6,h7,fun i y j x a q1 q2 q3 => (h8 i y j x a q1 q2 q3).mono k⟩
structure SimH (E : Env) (lo wlo : Nat) (h : SH C) (H : Heap) : Prop where
 obj : ∀ (id : Nat) (o : Obj C.T),h[id]? = some (some o) → ObjOk E H id o
 inj : ∀ (id id' : Nat) (o o' : Obj C.T) (b : Nat),h[id]? = some (some o) → h[id']? = some (some o') → E.β id = some b → E.β id' = some b → id = id'
 fr : ∀ (b : Nat) (cs : List AVal),E.Fr b cs → H[b]? = some (some (.cells cs)) ∧ ∀ (id : Nat) (o : Obj C.T),h[id]? = some (some o) → E.β id ≠ some b
 fresh : ∀ (id : Nat),h.length ≤ id → E.β id = none ∧ E.γ id = none
 low : ∀ (id b : Nat),wlo ≤ id → E.β id = some b → lo ≤ b
 bnd : ∀ (id b : Nat),E.β id = some b → b < H.length
 own : ∀ (b r : Nat),E.ω b = some r → b < H.length ∧ ∀ cs,¬ E.Fr b cs
 βω : ∀ (id b : Nat),E.β id = some b → ∃ r,E.ω b = some r
 wl : wlo ≤ h.length
 ll : lo ≤ H.length
inductive Tree : Type 1 where
 | ok
 | fork (b : Bool) (x y : Tree)
 | need (p : Prop) (x : Tree)
 | ex (α : Type) (f : α → Tree)
 | all (α : Type) (f : α → Tree)
 | imp (p : Prop) (x : Tree)
 | and (x y : Tree)
 | stuck (why : String)
def Stuck (_ : String) : Prop := False
def Tree.holds : Tree → Prop
 | .ok => True
 | .fork b x y => (b = true → x.holds) ∧ (b = false → y.holds)
 | .need p x => p ∧ x.holds
 | .ex α f => ∃ a : α,(f a).holds
 | .all α f => ∀ a : α,(f a).holds
 | .imp p x => p → x.holds
 | .and x y => x.holds ∧ y.holds
 | .stuck why => Stuck why
theorem stuck_no {s : String} (h : (Tree.stuck s).holds) : False := h
theorem fork_cases {b : Bool} {x y : Tree} (h : (Tree.fork b x y).holds) : (b = true ∧ x.holds) ∨ (b = false ∧ y.holds) := by
 cases b with
 | true => exact .inl ⟨rfl,h.1 rfl⟩
 | false => exact .inr ⟨rfl,h.2 rfl⟩
def opt {α : Type} (x : Option α) (why : String) (K : α → Tree) : Tree :=
 match x with
 | some v => K v
 | none => .stuck why
theorem opt_some {α : Type} {x : Option α} {why : String} {K : α → Tree} (h : (opt x why K).holds) : ∃ v,x = some v ∧ (K v).holds := by
 cases x with
 | some v => exact ⟨v,rfl,h⟩
 | none => exact (stuck_no h).elim
end Go.Sy

/- What each operation does to symbolic values. Generic: over any program. -/
namespace Go.Sy
set_option linter.unusedVariables false
open Go.Am
variable {C : Codec}
structure SR (C : Codec) where
 t : Bt (SV C.T)
 n : Nat
noncomputable def SR.get (r : SR C) (i : Nat) : SV C.T := bif Nat.blt i r.n then (r.t.get i).getD .any else .a undefA
noncomputable def SR.set (r : SR C) (i : Nat) (v : SV C.T) : SR C := bif Nat.blt i r.n then ⟨r.t.set v i,r.n⟩ else r
noncomputable def SR.fill : List (SV C.T) → Nat → SR C → SR C
 | [],_,r => r
 | a :: as,i,r => SR.fill as (i + 1) (r.set i a)
noncomputable def SR.frame (args : List (SV C.T)) (n : Nat) : SR C := SR.fill args 0 ⟨Bt.full (.a undefA) 9,n⟩
noncomputable def SR.only (n : Nat) : List (Nat × SV C.T) → SR C
 | [] => ⟨Bt.full .any 9,n⟩
 | (i,v) :: l => (SR.only n l).set i v
def hget (h : SH C) (id : Nat) : Option (Obj C.T) := match h[id]? with
 | some (some o) => some o
 | _ => none
def cellsS {T : Nat → Type} : SV T → Option (List (SV T))
 | .agg cs => some cs
 | .a (.agg as) => some (as.map .a)
 | .any => none
 | x => some [x]
def oneS {T : Nat → Type} : SV T → Bool
 | .agg _ => false
 | .tup _ => false
 | .any => false
 | .a v => v.one
 | _ => true
def scal {T : Nat → Type} : SV T → Bool
 | .a _ => true
 | .i _ _ => true
 | .b _ => true
 | .s _ => true
 | _ => false
def noId {T : Nat → Type} : SV T → Bool
 | .a _ => true
 | .i _ _ => true
 | .b _ => true
 | .s _ => true
 | .tl _ _ => true
 | _ => false
def liftV {T : Nat → Type} : AVal → SV T
 | .int k n => .i k n
 | .bool b => .b b
 | .str s => .s s
 | v => .a v
def intOf {T : Nat → Type} : SV T → Option (IntKind × Int)
 | .i k n => some (k,n)
 | .a (.int k n) => some (k,n)
 | _ => none
def strOf {T : Nat → Type} : SV T → Option (List UInt8)
 | .s x => some x
 | .a (.str x) => some x
 | _ => none
def boolOf {T : Nat → Type} : SV T → Option Bool
 | .b x => some x
 | .a (.bool x) => some x
 | _ => none
def nkS {T : Nat → Type} : SV T → Option (NK × Bool)
 | .a v => nk v
 | .iface _ _ => some (.i,false)
 | .ptr _ _ => some (.p,false)
 | .ep _ _ _ => some (.p,false)
 | .fp _ => some (.p,false)
 | .sl _ _ _ _ _ _ => some (.s,false)
 | .fn _ _ _ => some (.f,false)
 | .mapr _ => some (.m,false)
 | _ => none
section
variable (P : Program)
def partS {T : Nat → Type} (t : TypeId) (cs : List (SV T)) (off : Nat) : Option (SV T) :=
 match P.underlying t with
 | some (.struct _) | some (.array _ _) =>
  if off + szOf P t ≤ cs.length then some (.agg ((cs.drop off).take (szOf P t))) else none
 | some _ => cs[off]?
 | none => none
def chain (j : Int) (K : Nat → Tree) : Nat → Tree
 | 0 => .stuck "no such place"
 | 1 => K 0
 | m + 2 => .fork (j == ((m + 1 : Nat) : Int)) (K (m + 1)) (chain j K (m + 1))
def idxK {T : Nat → Type} (x : SV T) (len : Nat) (K : Nat → Tree) : Tree :=
 match x with
 | .a (.int _ n) => match n with
  | .ofNat m => bif Nat.blt m len then K m else .stuck "a place behind the end"
  | _ => .stuck "a place below nothing"
 | .i _ n => .need (0 ≤ n ∧ n < (len : Int)) (chain n K len)
 | _ => .stuck "a place that is no number"
def divS {T : Nat → Type} (op : BinOp) (k : IntKind) (m n : Int) (lit : Bool) (K : SV T → Tree) : Tree :=
 bif lit then
  match n with
  | .ofNat 0 => .stuck "division by nothing"
  | _ => match op with
   | .quo => K (.i k (k.wrap (m.tdiv n)))
   | _ => K (.i k (m.tmod n))
 else .need (n ≠ 0) (match op with
  | .quo => K (.i k (k.wrap (m.tdiv n)))
  | _ => K (.i k (m.tmod n)))
def shS {T : Nat → Type} (op : BinOp) (k : IntKind) (m n : Int) (K : SV T → Tree) : Tree :=
 .need (0 ≤ n) (match op with
  | .shl => K (.i k (k.wrap (m * 2 ^ (min n.toNat k.bits))))
  | _ => K (.i k (m.fdiv (2 ^ (min n.toNat k.bits)))))
def isLit {T : Nat → Type} : SV T → Bool
 | .a _ => true
 | _ => false
def intBinS {T : Nat → Type} (op : BinOp) (k k' : IntKind) (m n : Int) (lit : Bool) (K : SV T → Tree) : Tree :=
 match op with
 | .shl => shS .shl k m n K
 | .shr => shS .shr k m n K
 | .quo => if k = k' then divS .quo k m n lit K else .stuck "kinds"
 | .rem => if k = k' then divS .rem k m n lit K else .stuck "kinds"
 | op => if k = k' then opt (intBin op k m n) "no such operation" fun v => K (liftV v) else .stuck "kinds"
def strBinS {T : Nat → Type} (op : BinOp) (x y : List UInt8) (K : SV T → Tree) : Tree :=
 match op with
 | .add => .need (((x.length + y.length : Nat) : Int) ≤ IntKind.i64.max) (K (.s (x ++ y)))
 | op => opt (strBin op x y) "no such operation" fun v => K (liftV v)
def boolBinS {T : Nat → Type} (op : BinOp) (t : TypeId) (x y : Bool) (K : SV T → Tree) : Tree :=
 bif boolB P t then
  match op with
  | .eql => K (.b (x == y))
  | .neq => K (.b (!(x == y)))
  | _ => .stuck "no such operation"
 else .stuck "no truth"
def nilBinS {T : Nat → Type} (op : BinOp) (t : TypeId) (lit : Bool) (x y : NK × Bool) (K : SV T → Tree) : Tree :=
 if x.1 = y.1 ∧ (x.2 = true ∨ y.2 = true) ∧ nkOk P t x.1 = true ∧ (lit = true ∨ x.1 ≠ .i ∨ x.2 = false ∨ y.2 = false) then
  match op with
  | .eql => K (.a (.bool (x.2 && y.2)))
  | .neq => K (.a (.bool (!(x.2 && y.2))))
  | _ => .stuck "no such operation"
 else .stuck "nil"
def toA {T : Nat → Type} : SV T → Option AVal
 | .a v => some v
 | .i k n => some (.int k n)
 | .b x => some (.bool x)
 | .s x => some (.str x)
 | _ => none
def toAs {T : Nat → Type} : List (SV T) → Option (List AVal)
 | [] => some []
 | x :: xs => match toA x,toAs xs with
  | some a,some l => some (a :: l)
  | _,_ => none
def aggA {T : Nat → Type} : SV T → Option (List AVal)
 | .agg cs => toAs cs
 | .a (.agg l) => some l
 | _ => none
def binS {T : Nat → Type} (op : BinOp) (t : TypeId) (lit : Bool) (x y : SV T) (K : SV T → Tree) : Tree :=
 bif isLit x && isLit y then
  match x,y with
  | .a (.iface t1 v),.a (.iface t2 w) => opt (binA P op t lit (.iface t1 v) (.iface t2 w)) "binop" fun r => K (liftV r)
  | .a v,.a w => opt (binA P op t lit v w) "binop" fun r => K (.a r)
  | _,_ => .stuck ""
 else
  match intOf x,intOf y with
  | some (k,m),some (k',n) => intBinS op k k' m n (isLit y) K
  | _,_ => match strOf x,strOf y with
   | some s,some s' => strBinS op s s' K
   | _,_ => match boolOf x,boolOf y with
    | some b,some b' => boolBinS P op t b b' K
    | _,_ => match nkS x,nkS y with
     | some p,some q => nilBinS P op t lit p q K
     | _,_ => match aggA x,aggA y with
      | some l,some l' => opt (binA P op t lit (.agg l) (.agg l')) "binop" fun r => K (liftV r)
      | _,_ => .stuck "binop"
def unS {T : Nat → Type} (op : UnOp) (x : SV T) (K : SV T → Tree) : Tree :=
 match x with
 | .a v => opt (unA op v) "unop" fun r => K (.a r)
 | .i k n => opt (unA op (.int k n)) "unop" fun r => K (liftV r)
 | .b t => opt (unA op (.bool t)) "unop" fun r => K (liftV r)
 | _ => .stuck "unop"
def fieldAddrS {T : Nat → Type} (t : TypeId) (x : SV T) (f : Nat) (K : SV T → Tree) : Tree :=
 match P.underlying t with
 | some (.struct fs) =>
  match fs[f]? with
  | some fd =>
   if (P.info? fd.type).isSome ∧ szOf P fd.type ≠ 0 then
    match x with
    | .ptr id off => K (.ptr id (off + fd.offset))
    | .ep id i off => K (.ep id i (off + fd.offset))
    | .fp cs => if fd.offset ≤ cs.length then K (.fp (cs.drop fd.offset)) else .stuck "fieldAddr"
    | .a (.ipt cs) => K (.a (.ipt (cs.drop fd.offset)))
    | .a (.eptr _ cs) => K (.a (.ipt (cs.drop fd.offset)))
    | _ => .stuck "fieldAddr"
   else .stuck "fieldAddr"
  | none => .stuck "fieldAddr"
 | _ => .stuck "fieldAddr"
def fieldS {T : Nat → Type} (t : TypeId) (x : SV T) (f : Nat) (K : SV T → Tree) : Tree :=
 match P.underlying t with
 | some (.struct fs) =>
  match fs[f]? with
  | some fd => if (P.info? fd.type).isSome then
   match x with
   | .agg cs => opt (partS P fd.type cs fd.offset) "field" K
   | .a (.agg as) => opt (partA P fd.type as fd.offset) "field" fun v => K (.a v)
   | _ => .stuck "field"
   else .stuck "field"
  | none => .stuck "field"
 | _ => .stuck "field"
def indexAddrS (t : TypeId) (h : SH C) (x i : SV C.T) (K : SV C.T → Tree) : Tree :=
 match P.underlying t with
 | some (.array len e) =>
  if (P.info? e).isSome then
   match x with
   | .ptr id off => idxK i len fun j => K (.ptr id (off + j * szOf P e))
   | .fp cs => idxK i len fun j => if j * szOf P e ≤ cs.length then K (.fp (cs.drop (j * szOf P e))) else .stuck "indexAddr"
   | .a (.ipt cs) => idxK i len fun j => K (.a (.ipt (cs.drop (j * szOf P e))))
   | _ => .stuck "indexAddr"
  else .stuck "indexAddr"
 | some (.slice e) =>
  if (P.info? e).isSome then
   match x with
   | .tl n l => if C.sz n = szOf P e then
    match intOf i with
    | some (_,j) => .need (0 ≤ j ∧ j < (l.length : Int)) (K (.fp (C.enc n (C.at n l j))))
    | none => .stuck "indexAddr"
    else .stuck "indexAddr"
   | .R id => match hget h id with
    | some (.rows n l _ _) => if C.sz n = szOf P e then
     match intOf i with
     | some (_,j) => .need (0 ≤ j ∧ j < (l.length : Int)) (K (.ep id j 0))
     | none => .stuck "indexAddr"
     else .stuck "indexAddr"
    | _ => .stuck "indexAddr: gone"
   | .sl sz id off len _ _ => if sz = szOf P e then idxK i len fun j => K (.ptr id (off + j * sz)) else .stuck "indexAddr"
   | .a (.list sz rows ex) => if sz = szOf P e then idxK i rows.length fun j => opt (rows[j]?) "indexAddr" fun r => K (.a (.ipt r)) else .stuck "indexAddr"
   | _ => .stuck "indexAddr"
  else .stuck "indexAddr"
 | _ => .stuck "indexAddr"
def indexS {T : Nat → Type} (t : TypeId) (x i : SV T) (K : SV T → Tree) : Tree :=
 match P.underlying t with
 | some (.array len e) =>
  if (P.info? e).isSome then
   match x with
   | .agg cs => idxK i len fun j => opt (partS P e cs (j * szOf P e)) "index" K
   | .a (.agg as) => idxK i len fun j => opt (partA P e as (j * szOf P e)) "index" fun v => K (.a v)
   | _ => .stuck "index"
  else .stuck "index"
 | some .string =>
  match x,i with
  | .a (.str s),.a (.int _ n) => match n with
   | .ofNat m => opt (s[m]?) "index" fun b => K (.a (.int .u8 b.toNat))
   | _ => .stuck "index"
  | _,_ =>
   match strOf x,intOf i with
   | some s,some (_,j) => .need (0 ≤ j ∧ j < (s.length : Int)) (K (.i .u8 ((s.getD j.toNat 0).toNat)))
   | _,_ => .stuck "index"
 | _ => .stuck "index"
def lenS (t : TypeId) (h : SH C) (x : SV C.T) (K : SV C.T → Tree) : Tree :=
 match P.underlying t with
 | some .string => match x with
  | .a (.str s) => K (.a (.int .i64 s.length))
  | .s s => K (.i .i64 s.length)
  | _ => .stuck "len"
 | some (.array n _) => match x with
  | .mapr _ => .stuck "len"
  | .any => .stuck "len"
  | .a (.mapr _) => .stuck "len"
  | _ => K (.a (.int .i64 n))
 | some (.slice _) => match x with
  | .a .nils => K (.a (.int .i64 0))
  | .a (.list _ rows _) => K (.a (.int .i64 rows.length))
  | .sl _ _ _ len _ _ => K (.a (.int .i64 len))
  | .tl _ l => K (.i .i64 l.length)
  | .R id => match hget h id with
   | some (.rows _ l _ _) => K (.i .i64 l.length)
   | _ => .stuck "len: gone"
  | _ => .stuck "len"
 | _ => .stuck "len"
def loadS (t : TypeId) (h : SH C) (x : SV C.T) (K : SV C.T → Tree) : Tree :=
 match x with
 | .ptr id off => match hget h id with
  | some (.cells cs) => if off ≤ cs.length then opt (partS P t (cs.drop off) 0) "load" K else .stuck "load"
  | _ => .stuck "load: gone"
 | .ep id i off => match hget h id with
  | some (.rows n l _ _) => .need (0 ≤ i ∧ i < (l.length : Int)) (if off ≤ C.sz n then opt (partS P t ((C.enc n (C.at n l i)).drop off) 0) "load" K else .stuck "load")
  | _ => .stuck "load: gone"
 | .fp cs => opt (partS P t cs 0) "load" K
 | .a (.ipt cs) => opt (partA P t cs 0) "load" fun v => K (.a v)
 | .a (.eptr _ cs) => opt (partA P t cs 0) "load" fun v => K (.a v)
 | _ => .stuck "load"
def litV {T : Nat → Type} : SV T → Option AVal
 | .a v => some v
 | .i k n => some (.int k n)
 | .b t => some (.bool t)
 | .s x => some (.str x)
 | .iface t (.a v) => some (.iface t v)
 | _ => none
def bytesS {T : Nat → Type} : List (SV T) → Option (List UInt8)
 | [] => some []
 | x :: xs => match intOf x with
  | some (.u8,n) => (bytesS xs).map (UInt8.ofNat n.toNat :: ·)
  | _ => none
def byteR (C : Codec) (n : Nat) (y : C.T n) : UInt8 := match C.enc n y with
 | [x] => match intOf x with
  | some (_,m) => UInt8.ofNat m.toNat
  | none => 0
 | _ => 0
def convS (s d : TypeId) (h : SH C) (x : SV C.T) (K : SV C.T → Tree) : Tree :=
 match x with
 | .a v => opt (convHA P s d [] v) "convert" fun r => K (.a r)
 | .i _ n => match P.underlying s,P.underlying d with
  | some _,some (.int k) => K (.i k (k.wrap n))
  | _,_ => .stuck "convert"
 | .s x => match P.underlying s,P.underlying d with
  | some _,some .string => K (.s x)
  | _,_ => .stuck "convert"
 | .sl sz id off len _ _ => match P.underlying s,P.underlying d,hget h id with
  | some (.slice e),some .string,some (.cells cs) => match P.underlying e with
   | some (.int .u8) => if sz = 1 ∧ off + len ≤ cs.length then
    match bytesS ((cs.drop off).take len) with
    | some b => K (.s b)
    | none => .stuck "convert: bytes"
    else .stuck "convert"
   | _ => .stuck "convert"
  | _,_,_ => .stuck "convert"
 | .R id => match P.underlying s,P.underlying d,hget h id with
  | some (.slice e),some .string,some (.rows n l _ _) => match P.underlying e with
   | some (.int .u8) => if C.sz n = 1 then .need (∀ y,y ∈ l → ∃ x m,C.enc n y = [x] ∧ intOf x = some (.u8,m)) (K (.s (l.map (byteR C n)))) else .stuck "convert: rows"
   | _ => .stuck "convert"
  | _,_,_ => .stuck "convert"
 | _ => .stuck "convert"
def typeAssertS {T : Nat → Type} (x : SV T) (t : TypeId) (ok : Bool) (K : SV T → Tree) : Tree :=
 match x with
 | .a v => opt (typeAssertA P v t ok) "typeAssert" fun r => K (.a r)
 | .iface u v =>
  match P.underlying t with
  | some (.interface want) =>
   match P.info? u with
   | some i =>
    if lacksA want i.methods then (if ok then opt (zeroA P t) "typeAssert" fun z => K (.tup [.a z,.a (.bool false)]) else .stuck "typeAssert")
    else K (if ok then .tup [.iface u v,.a (.bool true)] else .iface u v)
   | none => .stuck "typeAssert"
  | some _ =>
   if u = t then K (if ok then .tup [v,.a (.bool true)] else v)
   else if ok then opt (zeroA P t) "typeAssert" fun z => K (.tup [.a z,.a (.bool false)]) else .stuck "typeAssert"
  | none => .stuck "typeAssert"
 | _ => .stuck "typeAssert"
def fillS {T : Nat → Type} (place : Nat → Option (Nat × Nat)) (cells : List (SV T)) : List (Nat × SV T) → Option (List (SV T))
 | [] => some cells
 | (i,v) :: rest =>
  match place i with
  | none => none
  | some (off,size) =>
   match cellsS v with
   | none => none
   | some vs => if vs.length ≠ size ∨ off + vs.length > cells.length ∨ !vs.all oneS then none
    else fillS place (cells.take off ++ vs ++ cells.drop (off + vs.length)) rest
def buildS {T : Nat → Type} (t : TypeId) (parts : List (Nat × SV T)) (K : SV T → Tree) : Tree :=
 match zeroA P t with
 | none => .stuck "build"
 | some z =>
  if !z.cells.all AVal.one then .stuck "build" else
  match P.underlying t with
  | some (.struct fs) =>
   if fs.all (fun f => (P.info? f.type).isSome) then opt (fillS (fun i => (fs[i]?).map fun f => (f.offset,szOf P f.type)) (z.cells.map .a) parts) "build" fun cs => K (.agg cs) else .stuck "build"
  | some (.array _ e) => if (P.info? e).isSome then opt (fillS (fun i => some (i * szOf P e,szOf P e)) (z.cells.map .a) parts) "build" fun cs => K (.agg cs) else .stuck "build"
  | _ => .stuck "build"
end
def sEval {C : Codec} (S : AStat) (g : Nat → SV C.T) : Operand → SV C.T
 | .tmp t => g t
 | .const v => .a (constA v)
 | .global x => match S.glob x with
  | some cs => .a (.ipt cs)
  | none => .any
 | .func f => .a (.fn (.func f) [] [])
end Go.Sy

/- The quiet operations on symbolic values are sound. Generic: over any program. -/
namespace Go.Sy
open Go.Am
set_option linter.unusedVariables false
variable {C : Codec} {E : Env}
def Ret (E : Env) (r : Option AVal) (K : SV C.T → Tree) : Prop := ∃ v sv,r = some v ∧ Er E sv v ∧ (K sv).holds
theorem Er.lift (v : AVal) : Er (C := C) E (liftV v) v := by
 cases v <;> simp only [liftV] <;> constructor
theorem cellsS_ok {x : SV C.T} {a : AVal} {cs : List (SV C.T)} (h : Er E x a) (hc : cellsS x = some cs) : Ers E cs a.cells := by
 have one : ∀ {x : SV C.T} {a : AVal},Er E x a → (∀ as,a ≠ .agg as) → Ers E [x] a.cells := by
  intro x a h ha
  have : a.cells = [a] := by cases a <;> first | rfl | exact (ha _ rfl).elim
  rw [this]
  exact Ers.nil.cons h
 cases h with
 | a =>
  cases a <;> simp only [cellsS,Option.some.injEq] at hc <;> subst hc <;> first
   | exact Ers.mapA _
   | exact Ers.nil.cons (.a _)
 | agg hl hr =>
  simp only [cellsS,Option.some.injEq] at hc
  subst hc
  exact ⟨hl,hr⟩
 | any => cases hc
 | R h hs =>
  simp only [cellsS,Option.some.injEq] at hc
  subst hc
  exact one (.R h hs) (fun as e => by subst e; simp [isSlB] at hs)
 | tup hl hr => simp only [cellsS,Option.some.injEq] at hc; subst hc; exact one (.tup hl hr) (by intro as e; cases e)
 | fn h1 h2 h3 h4 => simp only [cellsS,Option.some.injEq] at hc; subst hc; exact one (.fn h1 h2 h3 h4) (by intro as e; cases e)
 | tlL h1 h2 h3 h4 => simp only [cellsS,Option.some.injEq] at hc; subst hc; exact one (.tlL h1 h2 h3 h4) (by intro as e; cases e)
 | tlS h1 h2 h3 h4 h5 h6 => simp only [cellsS,Option.some.injEq] at hc; subst hc; exact one (.tlS h1 h2 h3 h4 h5 h6) (by intro as e; cases e)
 | fpI h1 h2 h3 => simp only [cellsS,Option.some.injEq] at hc; subst hc; exact one (.fpI h1 h2 h3) (by intro as e; cases e)
 | fpP h1 h2 h3 h4 => simp only [cellsS,Option.some.injEq] at hc; subst hc; exact one (.fpP h1 h2 h3 h4) (by intro as e; cases e)
 | tlN => simp only [cellsS,Option.some.injEq] at hc; subst hc; exact one .tlN (by intro as e; cases e)
 | i k n => simp only [cellsS,Option.some.injEq] at hc; subst hc; exact one (.i k n) (by intro as e; cases e)
 | b k => simp only [cellsS,Option.some.injEq] at hc; subst hc; exact one (.b k) (by intro as e; cases e)
 | s k => simp only [cellsS,Option.some.injEq] at hc; subst hc; exact one (.s k) (by intro as e; cases e)
 | iface k => simp only [cellsS,Option.some.injEq] at hc; subst hc; exact one (.iface k) (by intro as e; cases e)
 | ptr k => simp only [cellsS,Option.some.injEq] at hc; subst hc; exact one (.ptr k) (by intro as e; cases e)
 | ep k => simp only [cellsS,Option.some.injEq] at hc; subst hc; exact one (.ep k) (by intro as e; cases e)
 | sl k => simp only [cellsS,Option.some.injEq] at hc; subst hc; exact one (.sl k) (by intro as e; cases e)
 | mapr k => simp only [cellsS,Option.some.injEq] at hc; subst hc; exact one (.mapr k) (by intro as e; cases e)
theorem oneS_ok {x : SV C.T} {a : AVal} (h : Er E x a) (hc : oneS x = true) : a.one = true := by
 cases h <;> simp only [oneS] at hc <;> first
  | rfl
  | exact hc
  | (cases hc; done)
  | (rename_i hs
     cases a <;> simp only [isSlB] at hs <;> first | rfl | (cases hs; done))
theorem oneS_all {xs : List (SV C.T)} {as : List AVal} (h : Ers E xs as) (hc : xs.all oneS = true) : as.all AVal.one = true := by
 rw [List.all_eq_true] at hc ⊢
 intro a ha
 obtain ⟨i,hi⟩ := List.mem_iff_getElem?.1 ha
 have hl : i < xs.length := by
  rw [h.1]
  rcases Nat.lt_or_ge i as.length with k | k
  ·exact k
  ·rw [List.getElem?_eq_none k] at hi; cases hi
 exact oneS_ok (h.2 i _ a (List.getElem?_eq_getElem hl) hi) (hc _ (List.getElem_mem hl))
section
variable {P : Program}
theorem partS_ok {t : TypeId} {cs : List (SV C.T)} {as rest : List AVal} {off : Nat} {x : SV C.T} (h : Ers E cs as) (hx : partS P t cs off = some x) : ∃ a,partA P t (as ++ rest) off = some a ∧ Er E x a := by
 unfold partS at hx
 unfold partA
 have aggr : ∀ {z : Nat},(if off + z ≤ cs.length then some (SV.agg ((cs.drop off).take z)) else none) = some x →
  ∃ a,(if off + z ≤ (as ++ rest).length then some (AVal.agg (((as ++ rest).drop off).take z)) else none) = some a ∧ Er E x a := by
  intro z hx
  split at hx
  ·rename_i hle
   simp only [Option.some.injEq] at hx
   subst hx
   have hl := h.1
   rw [if_pos (by simp; omega)]
   refine ⟨_,rfl, ?_⟩
   rw [List.drop_append_of_le_length (by omega),List.take_append_of_le_length (by simp; omega)]
   have := (h.drop off).take z
   exact .agg this.1 this.2
  ·cases hx
 split at hx
 ·rename_i hu
  rw [hu]
  exact aggr hx
 ·rename_i hu
  rw [hu]
  exact aggr hx
 ·rename_i h1 h2 hu
  rw [hu]
  obtain ⟨a,ha,hr⟩ := h.get hx
  have hlt : off < as.length := by
   rcases Nat.lt_or_ge off as.length with k | k
   ·exact k
   ·rw [List.getElem?_eq_none k] at ha; cases ha
  have ha' : (as ++ rest)[off]? = some a := by rw [List.getElem?_append_left hlt]; exact ha
  split
  ·rename_i e; exact (h1 _ (Option.some.inj e)).elim
  ·rename_i e; exact (h2 _ _ (Option.some.inj e)).elim
  ·exact ⟨a,ha',hr⟩
  ·rename_i e; cases e
 ·cases hx
theorem partS_ok' {t : TypeId} {cs : List (SV C.T)} {as : List AVal} {off : Nat} {x : SV C.T} (h : Ers E cs as) (hx : partS P t cs off = some x) : ∃ a,partA P t as off = some a ∧ Er E x a := by
 obtain ⟨a,h1,h2⟩ := partS_ok (rest := []) h hx
 rw [List.append_nil] at h1
 exact ⟨a,h1,h2⟩
theorem chain_ok {j : Int} {K : Nat → Tree} : ∀ {n : Nat},(chain j K n).holds → 0 ≤ j → j < (n : Int) → ∃ m : Nat,j = m ∧ m < n ∧ (K m).holds
 | 0,h,_,_ => (stuck_no h).elim
 | 1,h,h0,h1 => ⟨0,by omega,by omega,h⟩
 | m + 2,h,h0,h1 => by
  rcases fork_cases h with ⟨h2,h3⟩ | ⟨h2,h3⟩
  ·exact ⟨m + 1,by simpa using h2,by omega,h3⟩
  ·have hne : j ≠ ((m + 1 : Nat) : Int) := by simpa using h2
   obtain ⟨k,h4,h5,h6⟩ := chain_ok h3 h0 (by omega)
   exact ⟨k,h4,by omega,h6⟩
theorem idxK_ok {x : SV C.T} {a : AVal} {len : Nat} {K : Nat → Tree} (h : Er E x a) (hk : (idxK x len K).holds) : ∃ j,idxA a = some j ∧ j < len ∧ (K j).holds := by
 unfold idxK at hk
 split at hk
 ·cases h
  split at hk
  ·rename_i m
   cases hb : Nat.blt m len with
   | true =>
    rw [hb] at hk
    exact ⟨m,by simp [idxA],by rw [Nat.blt_eq] at hb; exact hb,hk⟩
   | false => rw [hb] at hk; exact (stuck_no hk).elim
  ·exact (stuck_no hk).elim
 ·cases h
  obtain ⟨⟨h1,h2⟩,h3⟩ := hk
  obtain ⟨m,rfl,h4,h5⟩ := chain_ok h3 h1 h2
  exact ⟨m,by simp [idxA],h4,h5⟩
 ·exact (stuck_no hk).elim
theorem intOf_ok {x : SV C.T} {a : AVal} {k : IntKind} {n : Int} (h : Er E x a) (hk : intOf x = some (k,n)) : a = .int k n := by
 cases h <;> simp only [intOf] at hk <;> first
  | (cases hk; rfl)
  | (cases hk; done)
  | (cases a <;> simp only at hk <;> first | (cases hk; rfl) | (cases hk; done))
theorem strOf_ok {x : SV C.T} {a : AVal} {s : List UInt8} (h : Er E x a) (hk : strOf x = some s) : a = .str s := by
 cases h <;> simp only [strOf] at hk <;> first
  | (cases hk; rfl)
  | (cases hk; done)
  | (cases a <;> simp only at hk <;> first | (cases hk; rfl) | (cases hk; done))
theorem boolOf_ok {x : SV C.T} {a : AVal} {s : Bool} (h : Er E x a) (hk : boolOf x = some s) : a = .bool s := by
 cases h <;> simp only [boolOf] at hk <;> first
  | (cases hk; rfl)
  | (cases hk; done)
  | (cases a <;> simp only at hk <;> first | (cases hk; rfl) | (cases hk; done))
theorem litV_ok {x : SV C.T} {a v : AVal} (h : Er E x a) (e : litV x = some v) : a = v := by
 unfold litV at e
 split at e <;> first
  | (cases h; cases e; rfl)
  | (cases e; done)
  | skip
 cases e
 cases h with
 | iface h => cases h; rfl
theorem nkS_ok {x : SV C.T} {a : AVal} {p : NK × Bool} (h : Er E x a) (hk : nkS x = some p) : nk a = some p := by
 cases h <;> simp only [nkS] at hk <;> first
  | exact hk
  | (cases hk; done)
theorem divS_ok {op : BinOp} {k : IntKind} {m n : Int} {lit : Bool} {K : SV C.T → Tree} (h : (divS op k m n lit K).holds) (ho : op = .quo ∨ op = .rem) : Ret E (intBin op k m n) K := by
 unfold divS at h
 have key : n ≠ 0 → (match op with
  | .quo => K (.i k (k.wrap (m.tdiv n)))
  | _ => K (.i k (m.tmod n))).holds → Ret E (intBin op k m n) K := by
  intro hn h
  rcases ho with rfl | rfl
  ·exact ⟨_,_,by simp [intBin,hn],.i _ _,h⟩
  ·exact ⟨_,_,by simp [intBin,hn],.i _ _,h⟩
 cases lit with
 | true =>
  simp only [cond_true] at h
  split at h
  ·exact (stuck_no h).elim
  ·rename_i hn
   refine key (fun e => ?_) h
   subst e
   exact hn rfl
 | false =>
  simp only [cond_false] at h
  exact key h.1 h.2
theorem intBinS_ok {op : BinOp} {k k' : IntKind} {m n : Int} {lit : Bool} {t : TypeId} {l : Bool} {K : SV C.T → Tree} (h : (intBinS op k k' m n lit K).holds) : Ret E (binA P op t l (.int k m) (.int k' n)) K := by
 have gen : ∀ {op : BinOp},(∀ k m n,binA P op t l (.int k m) (.int k' n) = if k = k' then intBin op k m n else none) → (if k = k' then opt (intBin op k m n) "no such operation" fun v => K (liftV v) else Tree.stuck "kinds").holds → Ret E (binA P op t l (.int k m) (.int k' n)) K := by
  intro op he h
  rw [he]
  split at h
  ·rename_i hk
   rw [if_pos hk]
   obtain ⟨v,h1,h2⟩ := opt_some h
   exact ⟨v,_,h1,.lift v,h2⟩
  ·exact (stuck_no h).elim
 have dv : ∀ {op : BinOp},(op = .quo ∨ op = .rem) → (∀ k m n,binA P op t l (.int k m) (.int k' n) = if k = k' then intBin op k m n else none) → (if k = k' then divS op k m n lit K else Tree.stuck "kinds").holds → Ret E (binA P op t l (.int k m) (.int k' n)) K := by
  intro op ho he h
  rw [he]
  split at h
  ·rename_i hk
   rw [if_pos hk]
   exact divS_ok h ho
  ·exact (stuck_no h).elim
 cases op <;> simp only [intBinS] at h <;> first
  | exact gen (fun _ _ _ => rfl) h
  | exact dv (.inl rfl) (fun _ _ _ => rfl) h
  | exact dv (.inr rfl) (fun _ _ _ => rfl) h
  | (simp only [shS] at h
     obtain ⟨h1,h2⟩ := h
     refine ⟨_,_, ?_,.i _ _,h2⟩
     simp only [binA,shiftA]
     rw [if_neg (by omega)])
theorem strBinS_ok {op : BinOp} {x y : List UInt8} {t : TypeId} {l : Bool} {K : SV C.T → Tree} (h : (strBinS op x y K).holds) : Ret E (binA P op t l (.str x) (.str y)) K := by
 have gen : ∀ {op : BinOp},binA P op t l (.str x) (.str y) = strBin op x y → (opt (strBin op x y) "no such operation" fun v => K (liftV v)).holds → Ret E (binA P op t l (.str x) (.str y)) K := by
  intro op he h
  rw [he]
  obtain ⟨v,h1,h2⟩ := opt_some h
  exact ⟨v,_,h1,.lift v,h2⟩
 cases op <;> simp only [strBinS] at h <;> first
  | exact gen rfl h
  | (obtain ⟨h1,h2⟩ := h
     refine ⟨_,_, ?_,.s _,h2⟩
     simp only [binA,strBin]
     rw [if_neg (by omega)])
theorem boolBinS_ok {op : BinOp} {x y : Bool} {t : TypeId} {l : Bool} {K : SV C.T → Tree} (h : (boolBinS P op t x y K).holds) : Ret E (binA P op t l (.bool x) (.bool y)) K := by
 unfold boolBinS at h
 cases hb : boolB P t with
 | false => rw [hb] at h; exact (stuck_no h).elim
 | true =>
  rw [hb] at h
  simp only [cond_true] at h
  cases op <;> first
   | exact (stuck_no h).elim
   | exact ⟨_,_,by simp [binA,eqA,hb],.b _,h⟩
theorem eqA_nk {t : TypeId} {l : Bool} {x y : AVal} {p q : NK × Bool} (hx : nk x = some p) (hy : nk y = some q) (hc : p.1 = q.1 ∧ (p.2 = true ∨ q.2 = true) ∧ nkOk P t p.1 = true ∧ (l = true ∨ p.1 ≠ .i ∨ p.2 = false ∨ q.2 = false)) : eqA P t l x y = some (p.2 && q.2) := by
 obtain ⟨k1,n1⟩ := p
 obtain ⟨k2,n2⟩ := q
 unfold eqA
 split
 ·cases hx
 ·cases hx
 ·rename_i u a v b
  simp only [nk,Option.some.injEq,Prod.mk.injEq] at hx hy
  obtain ⟨rfl,rfl⟩ := hx
  obtain ⟨rfl,rfl⟩ := hy
  simp at hc
 ·rw [hx,hy]
  simp only
  rw [if_pos hc]
theorem nilBinS_ok {op : BinOp} {x y : AVal} {p q : NK × Bool} {t : TypeId} {l : Bool} {K : SV C.T → Tree} (hx : nk x = some p) (hy : nk y = some q) (h : (nilBinS P op t l p q K).holds) : Ret E (binA P op t l x y) K := by
 unfold nilBinS at h
 split at h
 ·rename_i hc
  have he := eqA_nk hx hy hc
  have hni : ∀ k n,x ≠ .int k n := fun k n e => by subst e; cases hx
  have hns : ∀ s,x ≠ .str s := fun s e => by subst e; cases hx
  cases op <;> first
   | exact (stuck_no h).elim
   | (refine ⟨_,_, ?_,.a _,h⟩
      unfold binA
      split
      ·exact (hni _ _ rfl).elim
      ·exact (hns _ rfl).elim
      ·simp only [he,Option.map_some])
 ·exact (stuck_no h).elim
theorem toA_ok {x : SV C.T} {a v : AVal} (h : Er E x a) (hk : toA x = some v) : a = v := by
 cases h <;> simp only [toA] at hk <;> first
  | (cases hk; done)
  | (simp only [Option.some.injEq] at hk; exact hk)
theorem toAs_ok : ∀ {cs : List (SV C.T)} {l vs : List AVal},cs.length = l.length → (∀ (i : Nat) (x : SV C.T) (a : AVal),cs[i]? = some x → l[i]? = some a → Er E x a) → toAs cs = some vs → l = vs
 | [],l,vs,hl,_,hk => by
  simp only [toAs,Option.some.injEq] at hk
  subst hk
  exact List.length_eq_zero_iff.1 hl.symm
 | x :: cs,[],vs,hl,_,_ => by simp at hl
 | x :: cs,a :: l,vs,hl,he,hk => by
  simp only [toAs] at hk
  split at hk
  ·rename_i b m h1 h2
   simp only [Option.some.injEq] at hk
   subst hk
   have e1 := toA_ok (he 0 x a rfl rfl) h1
   have e2 := toAs_ok (l := l) (by simpa using hl) (fun i y b h3 h4 => he (i + 1) y b (by simpa using h3) (by simpa using h4)) h2
   rw [e1,e2]
  ·cases hk
theorem aggA_ok {x : SV C.T} {a : AVal} {l : List AVal} (h : Er E x a) (hk : aggA x = some l) : a = .agg l := by
 unfold aggA at hk
 split at hk
 ·cases h with
  | agg h1 h2 => rw [toAs_ok h1 h2 hk]
 ·cases h
  rw [Option.some.inj hk]
 ·cases hk
theorem binS_ok {op : BinOp} {t : TypeId} {l : Bool} {x y : SV C.T} {a b : AVal} {K : SV C.T → Tree} (hx : Er E x a) (hy : Er E y b) (h : (binS P op t l x y K).holds) : Ret E (binA P op t l a b) K := by
 unfold binS at h
 cases hl : isLit x && isLit y with
 | true =>
  rw [hl] at h
  simp only [cond_true] at h
  split at h
  ·cases hx
   cases hy
   obtain ⟨v,h1,h2⟩ := opt_some h
   exact ⟨v,_,h1,.lift v,h2⟩
  ·cases hx
   cases hy
   obtain ⟨v,h1,h2⟩ := opt_some h
   exact ⟨v,_,h1,.a v,h2⟩
  ·exact (stuck_no h).elim
 | false =>
  rw [hl] at h
  simp only [cond_false] at h
  split at h
  ·rename_i k m k' n h1 h2
   rw [intOf_ok hx h1,intOf_ok hy h2]
   exact intBinS_ok h
  ·split at h
   ·rename_i s s' h1 h2
    rw [strOf_ok hx h1,strOf_ok hy h2]
    exact strBinS_ok h
   ·split at h
    ·rename_i s s' h1 h2
     rw [boolOf_ok hx h1,boolOf_ok hy h2]
     exact boolBinS_ok h
    ·split at h
     ·rename_i p q h1 h2
      exact nilBinS_ok (nkS_ok hx h1) (nkS_ok hy h2) h
     ·split at h
      ·rename_i l1 l2 h1 h2
       rw [aggA_ok hx h1,aggA_ok hy h2]
       obtain ⟨v,h3,h4⟩ := opt_some h
       exact ⟨v,_,h3,.lift v,h4⟩
      ·exact (stuck_no h).elim
theorem unS_ok {op : UnOp} {x : SV C.T} {a : AVal} {K : SV C.T → Tree} (hx : Er E x a) (h : (unS op x K).holds) : Ret E (unA op a) K := by
 unfold unS at h
 split at h
 ·cases hx
  obtain ⟨v,h1,h2⟩ := opt_some h
  exact ⟨v,_,h1,.a v,h2⟩
 ·cases hx
  obtain ⟨v,h1,h2⟩ := opt_some h
  exact ⟨v,_,h1,.lift v,h2⟩
 ·cases hx
  obtain ⟨v,h1,h2⟩ := opt_some h
  exact ⟨v,_,h1,.lift v,h2⟩
 ·exact (stuck_no h).elim
theorem fieldAddrS_ok {t : TypeId} {f : Nat} {x : SV C.T} {a : AVal} {K : SV C.T → Tree} (hx : Er E x a) (h : (fieldAddrS P t x f K).holds) : Ret E (fieldAddrA P t a f) K := by
 unfold fieldAddrS at h
 unfold fieldAddrA
 split at h
 ·rename_i fs hu
  rw [hu]
  simp only
  split at h
  ·rename_i fd hf
   rw [hf]
   simp only
   split at h
   ·rename_i hc
    rw [if_pos hc]
    split at h
    ·cases hx with
     | ptr hb => exact ⟨_,_,rfl,.ptr hb,h⟩
    ·cases hx with
     | ep hb =>
      refine ⟨_,_,rfl, ?_,h⟩
      rw [Nat.add_assoc _ _ fd.offset]
      exact .ep hb
    ·split at h
     ·rename_i hle
      cases hx with
      | fpI e hl hr =>
       subst e
       have hh : Ers E _ _ := ⟨hl,hr⟩
       have := hh.drop fd.offset
       refine ⟨_,_,rfl,.fpI (List.drop_append_of_le_length (by omega)) this.1 this.2,h⟩
      | fpP hf e hl hr =>
       have hh : Ers E _ _ := ⟨hl,hr⟩
       have := hh.drop fd.offset
       exact ⟨_,_,rfl,.fpP hf (by rw [← List.drop_drop,e,List.drop_append_of_le_length (by omega)]) this.1 this.2,h⟩
     ·exact (stuck_no h).elim
    ·cases hx
     exact ⟨_,_,rfl,.a _,h⟩
    ·cases hx
     exact ⟨_,_,rfl,.a _,h⟩
    ·exact (stuck_no h).elim
   ·exact (stuck_no h).elim
  ·exact (stuck_no h).elim
 ·exact (stuck_no h).elim
theorem fieldS_ok {t : TypeId} {f : Nat} {x : SV C.T} {a : AVal} {K : SV C.T → Tree} (hx : Er E x a) (h : (fieldS P t x f K).holds) : Ret E (fieldA P t a f) K := by
 unfold fieldS at h
 unfold fieldA
 split at h
 ·rename_i fs hu
  rw [hu]
  split at h
  ·rename_i fd hf
   split at h
   ·rename_i hc
    split at h
    ·cases hx with
     | agg hl hr =>
      obtain ⟨v,h1,h2⟩ := opt_some h
      obtain ⟨w,h3,h4⟩ := partS_ok' (E := E) ⟨hl,hr⟩ h1
      simp only [hf]
      rw [if_pos hc]
      exact ⟨w,v,h3,h4,h2⟩
    ·cases hx
     obtain ⟨v,h1,h2⟩ := opt_some h
     simp only [hf]
     rw [if_pos hc]
     exact ⟨v,_,h1,.a v,h2⟩
    ·exact (stuck_no h).elim
   ·exact (stuck_no h).elim
  ·exact (stuck_no h).elim
 ·exact (stuck_no h).elim
theorem Codec.at_get {n : Nat} {l : List (C.T n)} {j : Int} (h0 : 0 ≤ j) (h1 : j < (l.length : Int)) : l[j.toNat]? = some (C.at n l j) := by
 have : j.toNat < l.length := by omega
 unfold Codec.at
 rw [List.getD_eq_getElem?_getD,List.getElem?_eq_getElem this]
 rfl
end
end Go.Sy

/- The quiet operations on symbolic values are sound, second half. Generic: over any program. -/
namespace Go.Sy
open Go.Am
set_option linter.unusedVariables false
variable {C : Codec} {E : Env} {P : Program}
theorem hget_some {h : SH C} {id : Nat} {o : Obj C.T} (e : hget h id = some o) : h[id]? = some (some o) := by
 unfold hget at e
 split at e
 ·rename_i o' ho
  simp only [Option.some.injEq] at e
  rw [ho,e]
 ·cases e
structure CodecOk (C : Codec) : Prop where
 len : ∀ (n : Nat) (x : C.T n),(C.enc n x).length = C.sz n
 one : ∀ (n : Nat) (x : C.T n),(C.enc n x).all oneS = true
 ids : ∀ (n : Nat) (x : C.T n),(C.enc n x).all noId = true
 flat : ∀ (n : Nat) (x : C.T n),C.flat n = true → (C.enc n x).all scal = true
 dec : ∀ (n : Nat) (cs : List (SV C.T)) (x : C.T n),C.dec n cs = some x → ∀ (E : Env) (as : List AVal),Ers E cs as → Ers E (C.enc n x) as
theorem Ers.of_at {n : Nat} {l : List (C.T n)} {as : List AVal} {off i : Nat} {y : C.T n} (hC : CodecOk C) (h : ∀ (i : Nat) (y : C.T n) (j : Nat) (x : SV C.T) (a : AVal),l[i]? = some y → (C.enc n y)[j]? = some x → as[off + i * C.sz n + j]? = some a → Er E x a)
 (hy : l[i]? = some y) (hl : off + i * C.sz n + C.sz n ≤ as.length) : Ers E (C.enc n y) ((as.drop (off + i * C.sz n)).take (C.sz n)) := by
 refine ⟨by rw [hC.len]; simp; omega,fun j x a h1 h2 => ?_⟩
 rw [List.getElem?_take] at h2
 split at h2
 ·rw [List.getElem?_drop] at h2
  exact h i y j x a hy h1 h2
 ·cases h2
theorem mul_le_of {i n z : Nat} (h : i < n) : i * z + z ≤ n * z := by
 have : (i + 1) * z ≤ n * z := Nat.mul_le_mul_right _ h
 rw [Nat.add_mul,Nat.one_mul] at this
 exact this
theorem drop_take_split {as : List AVal} {o z : Nat} : as.drop o = (as.drop o).take z ++ as.drop (o + z) := by
 rw [← List.drop_drop,List.take_append_drop]
theorem indexAddrS_ok {lo wlo : Nat} (hC : CodecOk C) {t : TypeId} {h : SH C} {H : Heap} (hH : SimH E lo wlo h H) {x i : SV C.T} {a b : AVal} {K : SV C.T → Tree} (hx : Er E x a) (hi : Er E i b)
 (hh : (indexAddrS P t h x i K).holds) : Ret E (indexAddrA P t a b) K := by
 unfold indexAddrS at hh
 split at hh
 ·rename_i len e hu
  split at hh
  ·rename_i hc
   split at hh
   ·cases hx with
    | ptr hb =>
     obtain ⟨j,h1,h2,h3⟩ := idxK_ok hi hh
     refine ⟨_,_, ?_,.ptr hb,h3⟩
     simp only [indexAddrA,h1,hu,h2,hc,and_self,if_true]
   ·obtain ⟨j,h1,h2,h3⟩ := idxK_ok hi hh
    split at h3
    ·rename_i hle
     cases hx with
     | fpI e1 hl hr =>
      rename_i as all rest
      subst e1
      have hE : Ers E _ _ := ⟨hl,hr⟩
      have := hE.drop (j * szOf P e)
      refine ⟨_,_, ?_,.fpI (rest := rest) (List.drop_append_of_le_length (by omega)) this.1 this.2,h3⟩
      simp only [indexAddrA,h1,hu,h2,hc,and_self,if_true]
     | fpP hf e1 hl hr =>
      rename_i as all rest b off
      have hE : Ers E _ _ := ⟨hl,hr⟩
      have := hE.drop (j * szOf P e)
      have e2 : all.drop (off + j * szOf P e) = as.drop (j * szOf P e) ++ rest := by rw [← List.drop_drop,e1,List.drop_append_of_le_length (by omega)]
      refine ⟨.ptr b (off + j * szOf P e),_, ?_,.fpP (rest := rest) hf e2 this.1 this.2,h3⟩
      simp only [indexAddrA,h1,hu,h2,hc,and_self,if_true]
    ·exact (stuck_no h3).elim
   ·cases hx
    obtain ⟨j,h1,h2,h3⟩ := idxK_ok hi hh
    refine ⟨_,_, ?_,.a _,h3⟩
    simp only [indexAddrA,h1,hu,h2,hc,and_self,if_true]
   ·exact (stuck_no hh).elim
  ·exact (stuck_no hh).elim
 ·rename_i e hu
  split at hh
  ·rename_i hc
   split at hh
   ·rename_i n l
    split at hh
    ·rename_i hsz
     split at hh
     ·rename_i k j hj
      obtain ⟨⟨h0,h1⟩,h2⟩ := hh
      rw [intOf_ok hi hj]
      have hat := Codec.at_get (C := C) h0 h1
      have hidx : idxA (.int k j) = some j.toNat := by simp [idxA,h0]
      cases hx with
      | tlN => simp at h1; omega
      | tlL hz hl hs hr =>
       rename_i z rows ex
       have hlt : j.toNat < rows.length := by omega
       have hrow : rows[j.toNat]? = some rows[j.toNat] := List.getElem?_eq_getElem hlt
       refine ⟨.ipt rows[j.toNat],_, ?_,.fpI (rest := []) (List.append_nil _).symm ?_ (fun p q r g1 g2 => hr j.toNat _ _ p q r hat hrow g1 g2),h2⟩
       ·simp only [indexAddrA,hidx,hu,hc,if_true,hz,hsz,hrow,Option.map_some]
       ·rw [hC.len,hs _ _ hrow]
      | tlS hz hl hf ho hcap hr =>
       rename_i z b off len cap as ex
       have hm := mul_le_of (z := C.sz n) (show j.toNat < l.length by omega)
       have hE := Ers.of_at hC hr hat (by omega)
       refine ⟨.ptr b (off + j.toNat * C.sz n),_, ?_,.fpP hf drop_take_split hE.1 hE.2,h2⟩
       simp only [indexAddrA,hidx,hu,hc,if_true,hz,hsz]
       rw [if_pos ⟨trivial,by omega⟩]
     ·exact (stuck_no hh).elim
    ·exact (stuck_no hh).elim
   ·rename_i id
    split at hh
    ·rename_i n l full root ho
     split at hh
     ·rename_i hsz
      split at hh
      ·rename_i k j hj
       obtain ⟨⟨h0,h1⟩,h2⟩ := hh
       rw [intOf_ok hi hj]
       have hidx : idxA (.int k j) = some j.toNat := by simp [idxA,h0]
       cases hx with
       | R hg hs =>
        rcases hH.obj id _ (hget_some ho) with ⟨rfl,_⟩ | ⟨b,off,cap,ex,as,g1,g2,_,g3,g4,g5,g6,g7,g8⟩
        ·simp at h1; omega
        ·rw [hg] at g1
         simp only [Option.some.injEq] at g1
         subst g1
         refine ⟨.ptr b (off + j.toNat * C.sz n),_, ?_,.ep (off := 0) hg,h2⟩
         simp only [indexAddrA,hidx,hu,hc,if_true,hsz]
         rw [if_pos ⟨trivial,by omega⟩]
      ·exact (stuck_no hh).elim
     ·exact (stuck_no hh).elim
    ·exact (stuck_no hh).elim
   ·split at hh
    ·rename_i sz id off len cap ex hsz
     cases hx with
     | sl hb =>
      obtain ⟨j,h1,h2,h3⟩ := idxK_ok hi hh
      refine ⟨_,_, ?_,.ptr hb,h3⟩
      simp only [indexAddrA,h1,hu,hc,if_true,hsz]
      rw [if_pos ⟨trivial,h2⟩]
    ·exact (stuck_no hh).elim
   ·split at hh
    ·rename_i sz rows ex hsz
     cases hx
     obtain ⟨j,h1,h2,h3⟩ := idxK_ok hi hh
     obtain ⟨r,h4,h5⟩ := opt_some h3
     refine ⟨_,_, ?_,.a _,h5⟩
     simp only [indexAddrA,h1,hu,hc,if_true,hsz,h4,Option.map_some]
    ·exact (stuck_no hh).elim
   ·exact (stuck_no hh).elim
  ·exact (stuck_no hh).elim
 ·exact (stuck_no hh).elim
theorem indexS_ok {t : TypeId} {x i : SV C.T} {a b : AVal} {K : SV C.T → Tree} (hx : Er E x a) (hi : Er E i b) (hh : (indexS P t x i K).holds) : Ret E (indexA P t a b) K := by
 unfold indexS at hh
 split at hh
 ·rename_i len e hu
  split at hh
  ·rename_i hc
   split at hh
   ·cases hx with
    | agg hl hr =>
     obtain ⟨j,h1,h2,h3⟩ := idxK_ok hi hh
     obtain ⟨v,h4,h5⟩ := opt_some h3
     obtain ⟨w,h6,h7⟩ := partS_ok' (E := E) ⟨hl,hr⟩ h4
     exact ⟨w,v,by simp only [indexA,h1,hu,h2,hc,and_self,if_true,h6],h7,h5⟩
   ·cases hx
    obtain ⟨j,h1,h2,h3⟩ := idxK_ok hi hh
    obtain ⟨v,h4,h5⟩ := opt_some h3
    exact ⟨v,_,by simp only [indexA,h1,hu,h2,hc,and_self,if_true,h4],.a v,h5⟩
   ·exact (stuck_no hh).elim
  ·exact (stuck_no hh).elim
 ·rename_i hu
  split at hh
  ·cases hx
   cases hi
   split at hh
   ·obtain ⟨v,h4,h5⟩ := opt_some hh
    exact ⟨_,_,by simp [indexA,idxA,hu,h4],.a _,h5⟩
   ·exact (stuck_no hh).elim
  ·split at hh
   ·rename_i s k j h1 h2
    rw [strOf_ok hx h1,intOf_ok hi h2]
    obtain ⟨⟨h3,h4⟩,h5⟩ := hh
    have hlt : j.toNat < s.length := by omega
    refine ⟨_,_, ?_,.i _ _,h5⟩
    simp only [indexA,idxA,h3,if_true,hu,List.getElem?_eq_getElem hlt,Option.map_some]
    simp [List.getD_eq_getElem?_getD,hlt]
   ·exact (stuck_no hh).elim
 ·exact (stuck_no hh).elim
theorem lenS_ok {lo wlo : Nat} {t : TypeId} {h : SH C} {H : Heap} (hH : SimH E lo wlo h H) {x : SV C.T} {a : AVal} {K : SV C.T → Tree} (hx : Er E x a) (hh : (lenS P t h x K).holds) : Ret E (lenA P t H a) K := by
 unfold lenS at hh
 split at hh
 ·rename_i hu
  split at hh
  ·cases hx
   exact ⟨_,_,by simp [lenA,hu],.a _,hh⟩
  ·cases hx
   exact ⟨_,_,by simp [lenA,hu],.i _ _,hh⟩
  ·exact (stuck_no hh).elim
 ·rename_i n e hu
  split at hh
  ·exact (stuck_no hh).elim
  ·exact (stuck_no hh).elim
  ·exact (stuck_no hh).elim
  ·rename_i h1 h2 h3
   refine ⟨.int .i64 n,_, ?_,.a _,hh⟩
   have hm : ∀ b,a ≠ .mapr b := by
    rintro b rfl
    cases hx with
    | a => exact h3 b rfl
    | mapr => exact h1 _ rfl
    | any => exact h2 rfl
    | R _ hs => simp [isSlB] at hs
   unfold lenA
   rw [hu]
   split <;> simp_all
 ·rename_i e hu
  split at hh
  ·cases hx
   exact ⟨_,_,by simp [lenA,hu],.a _,hh⟩
  ·cases hx
   exact ⟨_,_,by simp [lenA,hu],.a _,hh⟩
  ·cases hx with
   | sl hb => exact ⟨_,_,by simp [lenA,hu],.a _,hh⟩
  ·cases hx with
   | tlN => exact ⟨_,_,by simp [lenA,hu],.i _ _,hh⟩
   | tlL h1 h2 => exact ⟨_,_,by simp [lenA,hu,h2],.i _ _,hh⟩
   | tlS h1 h2 => exact ⟨_,_,by simp [lenA,hu,h2],.i _ _,hh⟩
  ·rename_i id
   split at hh
   ·rename_i n l full root ho
    cases hx with
    | R hg hs =>
     rcases hH.obj id _ (hget_some ho) with ⟨rfl,_,a',g1,g2⟩ | ⟨b,off,cap,ex,as,g1,_⟩
     ·rw [hg] at g1
      simp only [Option.some.injEq] at g1
      subst g1
      rcases g2 with rfl | rfl
      ·exact ⟨_,_,by simp [lenA,hu],.i _ _,hh⟩
      ·exact ⟨_,_,by simp [lenA,hu],.i _ _,hh⟩
     ·rw [hg] at g1
      simp only [Option.some.injEq] at g1
      subst g1
      exact ⟨_,_,by simp [lenA,hu],.i _ _,hh⟩
   ·exact (stuck_no hh).elim
  ·exact (stuck_no hh).elim
 ·exact (stuck_no hh).elim
theorem loadS_ok {lo wlo : Nat} (hC : CodecOk C) {t : TypeId} {h : SH C} {H : Heap} (hH : SimH E lo wlo h H) {x : SV C.T} {a : AVal} {K : SV C.T → Tree} (hx : Er E x a) (hh : (loadS P t h x K).holds) : Ret E (loadA P t H a) K := by
 unfold loadS at hh
 split at hh
 ·rename_i id off
  split at hh
  ·rename_i cs ho
   split at hh
   ·rename_i hle
    obtain ⟨v,h1,h2⟩ := opt_some hh
    cases hx with
    | ptr hb =>
     rename_i b
     obtain ⟨b',as,g1,_,g2,g3⟩ := hH.obj id _ (hget_some ho)
     rw [hb] at g1
     simp only [Option.some.injEq] at g1
     subst g1
     obtain ⟨w,h3,h4⟩ := partS_ok' (g3.drop off) h1
     exact ⟨w,v,by simp only [loadA,atA,g2,Option.bind_some,h3],h4,h2⟩
   ·exact (stuck_no hh).elim
  ·exact (stuck_no hh).elim
 ·rename_i id i off
  split at hh
  ·rename_i n l full root ho
   obtain ⟨⟨h0,h1⟩,hh⟩ := hh
   split at hh
   ·rename_i hle
    obtain ⟨v,h2,h3⟩ := opt_some hh
    have hat := Codec.at_get (C := C) h0 h1
    cases hx with
    | ep hg =>
     rename_i z b o len cap ex
     rcases hH.obj id _ (hget_some ho) with ⟨rfl,_⟩ | ⟨b',off',cap',ex',as,g1,g2,_,g3,g4,g5,g6,g7,g8⟩
     ·simp at h1; omega
     ·rw [hg] at g1
      simp only [Option.some.injEq,AVal.sl.injEq] at g1
      obtain ⟨rfl,rfl,rfl,rfl,rfl,rfl⟩ := g1
      have hm := mul_le_of (z := C.sz n) (show i.toNat < l.length by omega)
      have hc := Nat.mul_le_mul_right (C.sz n) g4
      have hE := (Ers.of_at hC g8 hat (by omega)).drop off
      rw [List.drop_take] at hE
      obtain ⟨w,h4,h5⟩ := partS_ok (rest := as.drop (o + i.toNat * C.sz n + C.sz n)) hE h2
      have e : as.drop (o + i.toNat * C.sz n + off) = ((as.drop (o + i.toNat * C.sz n)).drop off).take (C.sz n - off) ++ as.drop (o + i.toNat * C.sz n + C.sz n) := by
       rw [List.drop_drop,show o + i.toNat * C.sz n + C.sz n = (o + i.toNat * C.sz n + off) + (C.sz n - off) by omega,← List.drop_drop (l := as) (i := C.sz n - off),List.take_append_drop]
      exact ⟨w,v,by simp only [loadA,atA,g3,Option.bind_some]; rw [e]; exact h4,h5,h3⟩
   ·exact (stuck_no hh).elim
  ·exact (stuck_no hh).elim
 ·obtain ⟨v,h1,h2⟩ := opt_some hh
  cases hx with
  | fpI e hl hr =>
   subst e
   obtain ⟨w,h3,h4⟩ := partS_ok (E := E) ⟨hl,hr⟩ h1
   exact ⟨w,v,by simp only [loadA,atA,Option.bind_some]; exact h3,h4,h2⟩
  | fpP hf e hl hr =>
   obtain ⟨w,h3,h4⟩ := partS_ok (E := E) ⟨hl,hr⟩ h1
   have := (hH.fr _ _ hf).1
   exact ⟨w,v,by simp only [loadA,atA,this,Option.bind_some,e]; exact h3,h4,h2⟩
 ·cases hx
  obtain ⟨v,h1,h2⟩ := opt_some hh
  exact ⟨v,_,by simp only [loadA,atA,Option.bind_some,h1],.a v,h2⟩
 ·cases hx
  obtain ⟨v,h1,h2⟩ := opt_some hh
  exact ⟨v,_,by simp only [loadA,atA,Option.bind_some,h1],.a v,h2⟩
 ·exact (stuck_no hh).elim
theorem strOfA_nil {s d : TypeId} {v r : AVal} (h : strOfA P s d [] v = some r) (H : Heap) : strOfA P s d H v = some r := by
 unfold strOfA at h ⊢
 split at h
 ·rename_i hs hd
  split at h
  ·exact h
  ·exact h
  ·simp at h
  ·cases h
 ·cases h
theorem convHA_nil {s d : TypeId} {v r : AVal} (h : convHA P s d [] v = some r) (H : Heap) : convHA P s d H v = some r := by
 unfold convHA at h ⊢
 cases e : convA P s d v with
 | some x => rw [e] at h; exact h
 | none => rw [e] at h; exact strOfA_nil h H
theorem bytes_ok : ∀ (n : Nat) {xs : List (SV C.T)} {ys : List AVal} {bs : List UInt8},Ers E xs ys → n ≤ xs.length → bytesS (xs.take n) = some bs → bytesOf? (chunk 1 n ys) = some bs
 | 0,xs,ys,bs,hE,hn,h => by
  simp only [List.take_zero,bytesS,Option.some.injEq] at h
  subst h
  rfl
 | n + 1,[],ys,bs,hE,hn,h => by simp at hn
 | n + 1,x :: xs,ys,bs,hE,hn,h => by
  obtain ⟨a,ys,rfl,h1,hE⟩ := hE.inv_cons
  simp only [List.take_succ_cons,bytesS] at h
  split at h
  ·rename_i m hi
   rw [Option.map_eq_some_iff] at h
   obtain ⟨cs,h2,rfl⟩ := h
   have := bytes_ok n hE (by simpa using hn) h2
   rw [intOf_ok h1 hi]
   show (bytesOf? (chunk 1 n ys)).map _ = _
   rw [this]
   rfl
  ·cases h
theorem bytes_rows {n : Nat} : ∀ {l : List (C.T n)} {as : List AVal},(∀ y,y ∈ l → ∃ x m,C.enc n y = [x] ∧ intOf x = some (.u8,m)) → l.length ≤ as.length → (∀ (i : Nat) (y : C.T n) (x : SV C.T) (a : AVal),l[i]? = some y → (C.enc n y)[0]? = some x → as[i]? = some a → Er E x a) → bytesOf? (chunk 1 l.length as) = some (l.map (byteR C n))
 | [],as,_,_,_ => rfl
 | y :: l,[],_,hl,_ => by simp at hl
 | y :: l,a :: as,h,hl,hE => by
  obtain ⟨x,m,h1,h2⟩ := h y (by simp)
  have h3 := hE 0 y x a rfl (by rw [h1]; rfl) rfl
  have ih := bytes_rows (l := l) (as := as) (fun z hz => h z (List.mem_cons_of_mem _ hz)) (by simpa using hl) (fun i z x a q1 q2 q3 => hE (i + 1) z x a q1 q2 q3)
  rw [intOf_ok h3 h2]
  show (bytesOf? (chunk 1 l.length as)).map _ = _
  rw [ih]
  simp only [Option.map_some,List.map_cons,byteR,h1,h2]
theorem convS_ok {s d : TypeId} {h : SH C} {lo wlo : Nat} {H : Heap} (hS : SimH E lo wlo h H) {x : SV C.T} {a : AVal} {K : SV C.T → Tree} (hx : Er E x a) (hh : (convS P s d h x K).holds) : Ret E (convHA P s d H a) K := by
 unfold convS at hh
 split at hh
 ·cases hx
  obtain ⟨v,h1,h2⟩ := opt_some hh
  exact ⟨v,_,convHA_nil h1 H,.a v,h2⟩
 ·cases hx
  split at hh
  ·rename_i hs hd
   exact ⟨_,_,by simp [convHA,convA,hs,hd],.i _ _,hh⟩
  ·exact (stuck_no hh).elim
 ·cases hx
  split at hh
  ·rename_i hs hd
   exact ⟨_,_,by simp [convHA,convA,hs,hd],.s _,hh⟩
  ·exact (stuck_no hh).elim
 ·rename_i sz id off len cap ex
  cases hx with
  | sl hβ =>
  rename_i b
  split at hh
  ·rename_i e cs hs hd ho
   split at hh
   ·rename_i he
    split at hh
    ·rename_i hc
     split at hh
     ·rename_i bs hbs
      obtain ⟨rfl,hl⟩ := hc
      obtain ⟨b',ys,g1,gw,g2,g3⟩ := hS.obj id _ (hget_some ho)
      rw [hβ] at g1
      simp only [Option.some.injEq] at g1
      subst g1
      have hlen := g3.1
      have := bytes_ok len (g3.drop off) (by rw [List.length_drop]; omega) hbs
      refine ⟨.str bs,_, ?_,.s _,hh⟩
      simp only [convHA,convA,hs,hd,strOfA,he,g2]
      rw [if_pos (show off + len ≤ ys.length by omega),this]
      rfl
     ·exact (stuck_no hh).elim
    ·exact (stuck_no hh).elim
   ·exact (stuck_no hh).elim
  ·exact (stuck_no hh).elim
 ·rename_i id
  cases hx with
  | R hγ _ =>
  split at hh
  ·rename_i e n l full root hs hd ho
   split at hh
   ·rename_i he
    split at hh
    ·rename_i hz
     obtain ⟨hb,hh⟩ := hh
     refine ⟨.str (l.map (byteR C n)),_, ?_,.s _,hh⟩
     rcases hS.obj id _ (hget_some ho) with ⟨rfl,_,a',g1,g2⟩ | ⟨b,off,cap,ex,as,g1,g2,gw,g3,g4,g5,g6,g7,g8⟩
     ·rw [hγ] at g1
      simp only [Option.some.injEq] at g1
      subst g1
      rcases g2 with rfl | rfl
      ·simp only [convHA,convA,hs,hd,strOfA,he]
       rfl
      ·simp only [convHA,convA,hs,hd,strOfA,he,hz,if_true]
       rfl
     ·rw [hγ] at g1
      simp only [Option.some.injEq] at g1
      subst g1
      rw [hz,Nat.mul_one] at g5
      have := bytes_rows (E := E) (l := l) (as := as.drop off) hb (by rw [List.length_drop]; omega) (fun i y x a q1 q2 q3 => g8 i y 0 x a q1 q2 (by rw [hz,Nat.mul_one,Nat.add_zero,← List.getElem?_drop]; exact q3))
      simp only [convHA,convA,hs,hd,strOfA,he,g3,hz]
      rw [if_pos trivial,if_pos (show off + l.length ≤ as.length by omega),this]
      rfl
    ·exact (stuck_no hh).elim
   ·exact (stuck_no hh).elim
  ·exact (stuck_no hh).elim
 ·exact (stuck_no hh).elim
theorem typeAssertS_ok {x : SV C.T} {a : AVal} {t : TypeId} {ok : Bool} {K : SV C.T → Tree} (hx : Er E x a) (hh : (typeAssertS P x t ok K).holds) : Ret E (typeAssertA P a t ok) K := by
 unfold typeAssertS at hh
 have two : ∀ {x y : SV C.T} {a b : AVal},Er E x a → Er E y b → Er E (.tup [x,y]) (.tup [a,b]) := fun h k => .tup rfl (Ers.nil.cons k |>.cons h).2
 split at hh
 ·cases hx
  obtain ⟨v,h1,h2⟩ := opt_some hh
  exact ⟨v,_,h1,.a v,h2⟩
 ·cases hx with
  | iface hv =>
   rename_i u x a
   simp only [typeAssertA]
   split at hh
   ·rename_i want hu
    simp only [hu]
    split at hh
    ·rename_i i hi
     simp only [hi]
     split at hh
     ·rename_i hl
      rw [if_pos hl]
      split at hh
      ·rename_i hok
       obtain ⟨z,h1,h2⟩ := opt_some hh
       exact ⟨_,_,by rw [if_pos hok,h1]; rfl,two (.a z) (.a _),h2⟩
      ·exact (stuck_no hh).elim
     ·rename_i hl
      rw [if_neg hl]
      refine ⟨_,_,rfl, ?_,hh⟩
      split
      ·exact two (.iface hv) (.a _)
      ·exact .iface hv
    ·exact (stuck_no hh).elim
   ·rename_i hne hu
    have e : ∀ (z : Option AVal),(match P.underlying t with
     | some (.interface want) => z
     | some _ => if u = t then some (if ok = true then .tup [a,.bool true] else a) else if ok = true then (zeroA P t).map fun z => .tup [z,.bool false] else none
     | none => none) = if u = t then some (if ok = true then AVal.tup [a,.bool true] else a) else if ok = true then (zeroA P t).map fun z => .tup [z,.bool false] else none := by
     intro z
     split
     ·rename_i w e; rw [e] at hu; exact (hne _ (Option.some.inj hu).symm).elim
     ·rfl
     ·rename_i e; rw [e] at hu; cases hu
    split
    ·rename_i w e; rw [e] at hu; exact (hne _ (Option.some.inj hu).symm).elim
    ·split at hh
     ·rename_i hut
      rw [if_pos hut]
      refine ⟨_,_,rfl, ?_,hh⟩
      split
      ·exact two hv (.a _)
      ·exact hv
     ·rename_i hut
      rw [if_neg hut]
      split at hh
      ·rename_i hok
       obtain ⟨z,h1,h2⟩ := opt_some hh
       exact ⟨_,_,by rw [if_pos hok,h1]; rfl,two (.a z) (.a _),h2⟩
      ·exact (stuck_no hh).elim
    ·rename_i e; rw [e] at hu; cases hu
   ·exact (stuck_no hh).elim
 ·exact (stuck_no hh).elim
inductive PartsOk (E : Env) : List (Nat × SV C.T) → List (Nat × AVal) → Prop
 | nil : PartsOk E [] []
 | cons {i : Nat} {x : SV C.T} {a : AVal} {xs : List (Nat × SV C.T)} {as : List (Nat × AVal)} : Er E x a → PartsOk E xs as → PartsOk E ((i,x) :: xs) ((i,a) :: as)
theorem fillS_ok {place : Nat → Option (Nat × Nat)} : ∀ {parts : List (Nat × SV C.T)} {as : List (Nat × AVal)} {cells : List (SV C.T)} {ca : List AVal} {r : List (SV C.T)},PartsOk E parts as → Ers E cells ca → fillS place cells parts = some r → ∃ ra,fillA place ca as = some ra ∧ Ers E r ra
 | [],_,cells,ca,r,hp,hc,h => by
  cases hp
  simp only [fillS,Option.some.injEq] at h
  subst h
  exact ⟨ca,rfl,hc⟩
 | (i,v) :: rest,_,cells,ca,r,hp,hc,h => by
  cases hp with
  | cons hv hp =>
   rename_i a as
   simp only [fillS] at h
   split at h
   ·cases h
   ·rename_i off size hpl
    split at h
    ·cases h
    ·rename_i vs hvs
     have hE := cellsS_ok hv hvs
     split at h
     ·cases h
     ·rename_i hne
      simp only [not_or,Decidable.not_not,Bool.not_eq_true,Bool.not_eq_false'] at hne
      obtain ⟨h1,h2,h3⟩ := hne
      have ho := oneS_all hE h3
      obtain ⟨ra,h4,h5⟩ := fillS_ok hp (((hc.take off).append hE).append (hc.drop (off + vs.length))) h
      refine ⟨ra, ?_,h5⟩
      have hl1 := hE.1
      have hl2 := hc.1
      simp only [fillA,hpl]
      rw [if_neg (by simp only [not_or,Decidable.not_not,Bool.not_eq_true,Bool.not_eq_false']; exact ⟨by omega,by omega,ho⟩)]
      rw [← hl1]
      exact h4
theorem buildS_ok {t : TypeId} {parts : List (Nat × SV C.T)} {as : List (Nat × AVal)} {K : SV C.T → Tree} (hp : PartsOk E parts as) (hh : (buildS P t parts K).holds) : Ret E (buildA P t as) K := by
 unfold buildS at hh
 unfold buildA
 split at hh
 ·exact (stuck_no hh).elim
 ·rename_i z hz
  simp only [hz]
  split at hh
  ·exact (stuck_no hh).elim
  ·rename_i hall
   rw [if_neg hall]
   split at hh
   ·rename_i fs hu
    simp only [hu]
    split at hh
    ·rename_i hc
     rw [if_pos hc]
     obtain ⟨cs,h1,h2⟩ := opt_some hh
     obtain ⟨ra,h3,h4⟩ := fillS_ok hp (Ers.mapA z.cells) h1
     exact ⟨_,_,by rw [h3]; rfl,.agg h4.1 h4.2,h2⟩
    ·exact (stuck_no hh).elim
   ·rename_i n e hu
    simp only [hu]
    split at hh
    ·rename_i hc
     rw [if_pos hc]
     obtain ⟨cs,h1,h2⟩ := opt_some hh
     obtain ⟨ra,h3,h4⟩ := fillS_ok hp (Ers.mapA z.cells) h1
     exact ⟨_,_,by rw [h3]; rfl,.agg h4.1 h4.2,h2⟩
    ·exact (stuck_no hh).elim
   ·exact (stuck_no hh).elim
end Go.Sy
