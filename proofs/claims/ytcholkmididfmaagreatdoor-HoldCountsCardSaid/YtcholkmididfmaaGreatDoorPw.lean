/- hold.Text and its closure, walked on the model. -/
import Derived.Test.YtcholkmididfmaaGreatDoorWd
namespace Go.Proofs.YtcholkmididfmaaGreatDoor
open Go.RowKit Go.Am
set_option linter.unusedVariables false
def Tab (w : World) : Prop := Lib.TabIs Tryz.prog w "internal/strconv.uint64pow10" .u64 Lib.pow10Tab
theorem Tab.below {w w' : World} (hb : Below w.heap.size w w') (h : Tab w) : Tab w' := by
 unfold Tab Lib.TabIs at *
 unfold World.var? at *
 rw [Option.bind_eq_some_iff] at h ⊢
 obtain ⟨g,hg,h⟩ := h
 refine ⟨g,hg, ?_⟩
 have hlt : g < w.heap.size := by
  rcases qm g w.heap.size with h1 | h1
  ·exact h1
  ·rw [Array.getElem?_eq_none h1] at h; simp at h
 rw [hb.block g hlt]
 exact h
theorem below_grow (w : World) (k : Nat) (os : Array Obj) : Below w.heap.size w (Sort.grow (w.drewN k) os) :=
 ⟨rfl,rfl,rfl,by show w.heap.size ≤ (w.heap ++ os).size; rw [Array.size_append]; omega,fun j hj => Array.getElem?_append_left hj⟩
theorem kept_grow (b : Nat) (w : World) (k : Nat) (os : Array Obj) : Kept b w (Sort.grow (w.drewN k) os) :=
 ⟨(below_grow w k os).size,fun j hj _ _ => (below_grow w k os).block j hj⟩
theorem builder_kept {B b : Nat} {bs : List Value} {w w' : World} (h : Lib.IsBuilder 85 5 B b bs w) (hb : Below w.heap.size w w') : Lib.IsBuilder 85 5 B b bs w' := by
 have key : ∀ p,Lib.BuilderAt 85 5 B b p bs w → Lib.BuilderAt 85 5 B b p bs w' := by
  rintro p ⟨hB,v,hk,hown,hne⟩
  have lt : ∀ {k o},w.heap[k]? = some o → k < w.heap.size := fun {k o} e => by
   rcases qm k w.heap.size with h1 | h1
   ·exact h1
   ·rw [Array.getElem?_eq_none h1] at e; cases e
  refine ⟨hB,v,by rw [hb.block b (lt hk)]; exact hk, ?_,hne⟩
  obtain ⟨hl,h0 | ⟨g,cap,cur,hv,hbs,hh,r⟩⟩ := hown
  ·exact ⟨hl,.inl h0⟩
  ·exact ⟨hl,.inr ⟨g,cap,cur,hv,hbs,by rw [hb.block g (lt hh)]; exact hh,r⟩⟩
 rcases h with h | h
 ·exact .inl (key _ h)
 ·exact .inr (key _ h)
theorem nums_snoc (l : List Int) (n : Int) : numsR (l ++ [n]) = numsR l ++ (32 :: Lib.itoa n) := by simp [numsR]
theorem nums_take_le (l : List Int) (k : Nat) : (numsR (l.take k)).length ≤ (numsR l).length := by
 have e : numsR l = numsR (l.take k) ++ numsR (l.drop k) := by
  rw [numsR,numsR,numsR,← List.flatten_append,← List.map_append,List.take_append_drop]
 rw [e,qo]
 omega
theorem cat_data (a b : List UInt8) : (⟨a.toArray⟩ ++ ⟨b.toArray⟩ : ByteArray) = ⟨(a ++ b).toArray⟩ := by
 apply ByteArray.ext
 simp
theorem cat_data0 (x : UInt8) (b : List UInt8) : (⟨#[x]⟩ ++ ⟨b.toArray⟩ : ByteArray) = ⟨(x :: b).toArray⟩ := cat_data [x] b
set_option maxHeartbeats 4000000 in
set_option maxRecDepth 1000000 in
theorem line_walk (B b : Nat) (acc head : List UInt8) (v : Value) (l : List Int) (w0 w : World) (h0 : Below w0.heap.size w0 w) (hB0 : w0.heap.size ≤ B) (htab : Tab w0) (hI : Lib.IsBuilder 85 5 B b (Lib.byteCells acc) w) (hBw : B ≤ w.heap.size)
 (hv : IntsK B b w v l) (hl : listB l = true) (hlen : acc.length + (lineR head l).length ≤ 100000000) :
 Calls Tryz.prog 39 #[.string ⟨head.toArray⟩,v,.pointer (some ⟨b,0,none⟩)] w fun e w' => e = .returned (.tuple #[]) ∧ Lib.IsBuilder 85 5 B b (Lib.byteCells (acc ++ lineR head l)) w' ∧ Below B w w' ∧ Kept b w w' := by
 have hlen' : acc.length + head.length + (numsR l).length + 1 ≤ 100000000 := by
  simp only [lineR,qo,qn,List.length_nil] at hlen; omega
 obtain ⟨hl1,hl2⟩ := listB_is hl
 have e17 : ∀ args w,(callFunc 40 args).run Tryz.prog w = .ok (.enter 40 args) w := enters_of Tryz.func40 (by kernel_rfl) rfl
 have e18 : ∀ args w,(callFunc 41 args).run Tryz.prog w = .ok (.enter 41 args) w := enters_of Tryz.func41 (by kernel_rfl) rfl
 have e19 : ∀ args w,(callFunc 42 args).run Tryz.prog w = .ok (.enter 42 args) w := enters_of Tryz.func42 (by kernel_rfl) rfl
 go_enter Tryz.func39,Tryz.ntmps39
 go_wp2_with (go_at_fn 40; refine (writeString B b _ _ _ hI ?h1 hBw).mono ?_)
 case h1 => rw [Lib.byteCells_length]; show acc.length + head.toArray.size ≤ _; rw [List.size_toArray]; omega
 rintro e W1 ⟨rfl,hI1,hb1,hk1⟩
 have hv1 := hv.kept hb1 hk1
 have hs0 := hv1
 obtain ⟨so,cap,rfl,hs⟩ := hs0
 go_wp2
 go_loopw [11] (fun i wr => ∃ k : Nat,k ≤ l.length ∧ i = .int .i64 k ∧ Lib.IsBuilder 85 5 B b (Lib.byteCells (acc ++ head ++ numsR (l.take k))) wr ∧ Below B w wr ∧ Kept b w wr) (fun i _ => l.length - (intOf i).toNat)
 case atStart =>
  refine ⟨0,Nat.zero_le _,rfl, ?_,hb1,hk1⟩
  rw [show acc ++ head ++ numsR (l.take 0) = acc ++ head by simp [numsR],Lib.byteCells_append]
  exact .inr hI1
 case round =>
  obtain ⟨k,hk,rfl,hIr,hbr,hkr⟩ := hrel
  have hsz : B ≤ wr.heap.size := Nat.le_trans hBw hbr.size
  have hvr := hv.kept hbr hkr
  by_cases hlt : k < l.length
  ·obtain ⟨so',cap',e',hs'⟩ := hvr
   simp only [Value.slice.injEq] at e'
   obtain ⟨rfl,_,rfl⟩ := e'
   obtain ⟨B',o,rfl,hB',hat,_⟩ := hs' (by rintro rfl; simp at hlt)
   have hx : l[k]? = some l[k] := qt hlt
   have htk : l.take (k + 1) = l.take k ++ [l[k]] := List.take_succ_eq_append_getElem hlt
   have hok := okB_is (hl2 l[k] (List.getElem_mem hlt))
   have hnl := itoa_len (hl2 l[k] (List.getElem_mem hlt))
   have htl := nums_take_le l (k + 1)
   generalize l[k] = n at hx htk hok hnl
   rw [htk,nums_snoc,qo,qn] at htl
   have hc : wr.cell? ⟨B',o + k,none⟩ = some (.int .i64 n) := by
    exact hat k _ (by rw [List.getElem?_map,hx]; rfl)
   have hkl : (k : Int) < l.length := by omega
   have htabr : Tab wr := htab.below (h0.trans (hbr.mono hB0))
   go_wp2_with (go_at_fn 41; refine (Tryz.strconv_FormatInt_10 n hok.1 hok.2 _ htabr).mono ?_)
   rintro e W2 ⟨rfl,kk,os,rfl⟩
   go_wp2_with (go_at_fn 40; refine (writeString B b _ _ _ (builder_kept hIr (below_grow wr kk os)) ?h2 (Nat.le_trans hsz (below_grow wr kk os).size)).mono ?_)
   case h2 => rw [cat_data0,Lib.byteCells_length]; show _ + (32 :: Lib.itoa n).toArray.size ≤ _; rw [List.size_toArray]; simp only [qo,qn]; omega
   rintro e W3 ⟨rfl,hI3,hb3,hk3⟩
   rw [cat_data0] at hI3
   go_wp2
   go_roundw
   case rel =>
    refine ⟨k + 1,hlt,by simp, ?_,(hbr.trans ((below_grow wr kk os).mono hsz)).trans hb3,(hkr.trans (kept_grow b wr kk os)).trans hk3⟩
    rw [htk,nums_snoc,← List.append_assoc,Lib.byteCells_append _ (32 :: Lib.itoa n)]
    exact .inr hI3
   case measure =>
    simp only [RowKit.intOf]
    omega
  ·have hk : k = l.length := by omega
   subst hk
   have hlt2 : ¬ ((l.length : Int) < l.length) := by omega
   rw [List.take_length] at hIr
   go_wp2_with (go_at_fn 42; refine (writeByte B b _ 10 _ hIr ?h3 hsz).mono ?_)
   case h3 => rw [Lib.byteCells_length]; simp only [qo]; omega
   rintro e W2 rfl hI2 hb2 hk2
   go_wp2
   go_end0
   refine ⟨rfl, ?_,hbr.trans hb2,hkr.trans hk2⟩
   rw [show acc ++ lineR head l = acc ++ (head ++ numsR l) ++ [10] by simp [lineR],Lib.byteCells_append _ [10]]
   exact .inr hI2
end Go.Proofs.YtcholkmididfmaaGreatDoor
