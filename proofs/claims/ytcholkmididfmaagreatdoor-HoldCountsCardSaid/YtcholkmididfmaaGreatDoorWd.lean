/- hold.wide, walked on the model: numbers as numbers. -/
import Derived.Test.YtcholkmididfmaaGreatDoorBw
import Derived.Test.YtcholkmididfmaaGreatDoorTx
import Derived.Lib.Walk
namespace Go.Proofs.YtcholkmididfmaaGreatDoor
open Go.RowKit Go.Am
set_option linter.unusedVariables false
theorem infoI64 : (Tryz.prog.info? 2).map (fun i => (i.zero,i.size,i.bytes)) = some (some (Value.int IntKind.i64 0),1,8) := by kernel_rfl
def IntsK (B b : Nat) (w : World) (v : Value) (l : List Int) : Prop :=
 ∃ so cap,v = .slice so l.length cap ∧ (l ≠ [] → ∃ B' o,so = some ⟨B',o,none⟩ ∧ B' < w.heap.size ∧ At w B' o (l.map (Value.int .i64)) ∧ (B' < B ∨ (B' ≠ b ∧ ∀ cur fr,w.heap[B']? ≠ some (.cells cur 5 fr))))
theorem IntsK.kept {B b : Nat} {w w' : World} (hb : Below B w w') (hk : Kept b w w') {v : Value} {l : List Int} (h : IntsK B b w v l) : IntsK B b w' v l := by
 obtain ⟨so,cap,e,h⟩ := h
 refine ⟨so,cap,e,fun hl => ?_⟩
 obtain ⟨B',o,h1,h2,h3,h4⟩ := h hl
 refine ⟨B',o,h1,qu h2 hk.1, ?_⟩
 rcases h4 with h4 | ⟨h4,h5⟩
 ·exact ⟨h3.of_block (hb.block _ h4),.inl h4⟩
 ·have e := hk.2 B' h2 h4 h5
  exact ⟨h3.of_block e,.inr ⟨h4,by rw [e]; exact h5⟩⟩
theorem _root_.Go.Am.IntsAt.toK {w0 w : World} {v : Value} {l : List Int} (h : IntsAt w0 v l) (hb : Below w0.heap.size w0 w) {B : Nat} (hB : w0.heap.size ≤ B) (b : Nat) : IntsK B b w v l := by
 obtain ⟨so,cap,e,h⟩ := h
 refine ⟨so,cap,e,fun hl => ?_⟩
 obtain ⟨B',o,h1,h2,h3⟩ := h hl
 exact ⟨B',o,h1,qu h2 hb.size,h3.of_block (hb.block _ h2),.inl (by omega)⟩
theorem ints_of_own {w : World} {base : Nat} {v : Value} {l : List Int} (h : w.ownsRow base 2 1 v l.length (l.map (Value.int .i64))) (B b : Nat) (hbb : b < base) : IntsK B b w v l := by
 obtain ⟨hl,⟨rfl,h0⟩ | ⟨g,cap,cur,rfl,hg,hh,_,_,hs,ht⟩⟩ := h
 ·obtain rfl := qq h0
  exact ⟨none,0,rfl,fun h => absurd rfl h⟩
 ·refine ⟨_,cap,rfl,fun _ => ⟨g,0,rfl, ?_,fun j u hj => ?_,.inr ⟨by omega,fun cur' fr e => by rw [hh] at e; cases e⟩⟩⟩
  ·rcases qm g w.heap.size with h | h
   ·exact h
   ·rw [Array.getElem?_eq_none h] at hh; cases hh
  ·rw [Lib.cell_of_heap hh,Nat.zero_add]
   rw [← ht,qx] at hj
   split at hj
   ·rwa [Array.getElem?_toList] at hj
   ·cases hj
set_option maxHeartbeats 4000000 in
set_option maxRecDepth 1000000 in
theorem wide_walk (v : Value) (l : List Int) (w : World) (h : IntsAt w v l) (hl : l.length ≤ 1000) :
 Calls Tryz.prog 44 #[v] w fun e w' => ∃ u,e = .returned u ∧ (∀ B b,b < w.heap.size → IntsK B b w' u l) ∧ Below w.heap.size w w' := by
 obtain ⟨i0,hi,hz0,hz1,hz2⟩ := info_parts infoI64
 obtain ⟨so,cap,rfl,hs⟩ := h
 go_enter Tryz.func44,Tryz.ntmps44
 go_wp2
 go_loopw [3,8] (fun v i wr => ∃ k : Nat,k ≤ l.length ∧ i = .int .i64 k ∧ wr.ownsRow w.heap.size 2 1 v k ((l.take k).map (Value.int .i64)) ∧ Below w.heap.size w wr) (fun _ i _ => l.length - (intOf i).toNat)
 case atStart => exact ⟨0,Nat.zero_le _,rfl,World.ownsRow_nil _ _ _ _,Below.refl _ _⟩
 case round =>
  obtain ⟨k,hk,rfl,hown,hb⟩ := hrel
  have hsz : w.heap.size ≤ wr.heap.size := hb.size
  by_cases hlt : k < l.length
  ·obtain ⟨B,o,rfl,hB,hat⟩ := hs (by rintro rfl; simp at hlt)
   have hx : l[k]? = some l[k] := qt hlt
   have htk : l.take (k + 1) = l.take k ++ [l[k]] := List.take_succ_eq_append_getElem hlt
   generalize l[k] = n at hx htk
   have hc : wr.cell? ⟨B,o + k,none⟩ = some (.int .i64 n) := by
    rw [World.cell?_of_block (w := w) (hb.block B hB)]
    exact hat k _ (by rw [List.getElem?_map,hx]; rfl)
   have hkl : (k : Int) < l.length := by omega
   go_wp2_with (at_builtin; refine wpList_append_own _ rfl _ _ 26 rfl w.heap.size 2 i0 (.int .i64 0) 1 8 Tryz.underlying26 hi hz0 hz1 hz2 rfl (by decide) _ _ _ rfl (hown.alloc _) ⟨wr.heap.size,0,none⟩ 1 1 [.int .i64 n] rfl rfl ?c1 ?c2 ?c3 ?c4 ?c5 ?_)
   case c1 =>
    intro j u hj
    match j,hj with
    | 0,hj => simp at hj; subst hj; simp [Addr.add]
   case c2 => intro u hu; simp at hu; subst hu; rfl
   case c3 => unfold maxLen; omega
   case c4 => omega
   case c5 => simp; omega
   intro v' w1 hown' hgrow _
   have hb1 : Below w.heap.size w w1 := (hb.alloc hsz _).grown hgrow (by simp; omega) (fun j hj => (hown.lt j hj).1)
   go_wp2
   go_roundw
   case rel => exact ⟨k + 1,hlt,by simp,by rw [htk,List.map_append,List.map_take]; exact hown',hb1⟩
   case measure =>
    simp only [RowKit.intOf]
    omega
  ·have hk : k = l.length := by omega
   subst hk
   have hlt2 : ¬ ((l.length : Int) < l.length) := by omega
   go_wp2
   go_ret
   rw [List.take_length] at hown
   exact ⟨_,rfl,fun B b hbb => ints_of_own hown B b hbb,hb⟩
end Go.Proofs.YtcholkmididfmaaGreatDoor
