/- The document's words: their contract is paid. -/
import Derived.Test.YtbbbpnaghipfmaaGreatDoorLw0
namespace Go.Proofs.YtbbbpnaghipfmaaGreatDoor
open Go.RowKit Go.Am Go.Sy
set_option linter.unusedVariables false

theorem wd_e : Go.Sy.Tree.holds (entryX F (lookC ([] : List (FuncId × Ctr cod))) 200 Tryz.f11 b11 ⟨[], .sl 1 0 0 23 23 false, [.cells (wordCells.map .a)]⟩ []) = ( constA (Value.string (ByteArray.mk #[])) = AVal.str [] ∧
 constA (Value.string (ByteArray.mk #[(115 : UInt8), 101, 116])) = AVal.str [(115 : UInt8), 101, 116] ∧ constA (Value.string (ByteArray.mk #[(97 : UInt8), 100, 100])) = AVal.str [(97 : UInt8), 100, 100] ∧ constA
 (Value.string (ByteArray.mk #[(115 : UInt8), 117, 98])) = AVal.str [(115 : UInt8), 117, 98] ∧ constA (Value.string (ByteArray.mk #[(109 : UInt8), 117, 108])) = AVal.str [(109 : UInt8), 117, 108] ∧ constA (Value.string
 (ByteArray.mk #[(120 : UInt8), 111, 114])) = AVal.str [(120 : UInt8), 111, 114] ∧ constA (Value.string (ByteArray.mk #[(108 : UInt8), 101, 115, 115])) = AVal.str [(108 : UInt8), 101, 115, 115] ∧ constA (Value.string
 (ByteArray.mk #[(115 : UInt8), 97, 109, 101])) = AVal.str [(115 : UInt8), 97, 109, 101] ∧ constA (Value.string (ByteArray.mk #[(108 : UInt8), 111, 97, 100])) = AVal.str [(108 : UInt8), 111, 97, 100] ∧ constA
 (Value.string (ByteArray.mk #[(115 : UInt8), 116, 111, 114, 101])) = AVal.str [(115 : UInt8), 116, 111, 114, 101] ∧ constA (Value.string (ByteArray.mk #[(116 : UInt8), 97, 107, 101])) = AVal.str [(116 : UInt8), 97, 107,
 101] ∧ constA (Value.string (ByteArray.mk #[(103 : UInt8), 105, 118, 101])) = AVal.str [(103 : UInt8), 105, 118, 101] ∧ constA (Value.string (ByteArray.mk #[(108 : UInt8), 111, 103])) = AVal.str [(108 : UInt8), 111, 103]
 ∧ constA (Value.string (ByteArray.mk #[(101 : UInt8), 110, 116, 101, 114])) = AVal.str [(101 : UInt8), 110, 116, 101, 114] ∧ constA (Value.string (ByteArray.mk #[(108 : UInt8), 101, 97, 118, 101])) = AVal.str [(108 :
 UInt8), 101, 97, 118, 101] ∧ constA (Value.string (ByteArray.mk #[(119 : UInt8), 97, 105, 116])) = AVal.str [(119 : UInt8), 97, 105, 116] ∧ constA (Value.string (ByteArray.mk #[(115 : UInt8), 105, 103, 110, 97, (108 :
 UInt8)])) = AVal.str [(115 : UInt8), 105, 103, 110, 97, (108 : UInt8)] ∧ constA (Value.string (ByteArray.mk #[(99 : UInt8), 97, 115, 116])) = AVal.str [(99 : UInt8), 97, 115, 116] ∧ constA (Value.string (ByteArray.mk
 #[(105 : UInt8), 102])) = AVal.str [(105 : UInt8), 102] ∧ constA (Value.string (ByteArray.mk #[(101 : UInt8), 108, 115, 101])) = AVal.str [(101 : UInt8), 108, 115, 101] ∧ constA (Value.string (ByteArray.mk #[(101 :
 UInt8), 110, 100])) = AVal.str [(101 : UInt8), 110, 100] ∧ constA (Value.string (ByteArray.mk #[(108 : UInt8), 111, 111, 112])) = AVal.str [(108 : UInt8), 111, 111, 112] ∧ constA (Value.string (ByteArray.mk #[(98 :
 UInt8), 97, 99, 107])) = AVal.str [(98 : UInt8), 97, 99, 107] ∧ True) := by kernel_rfl
theorem mkCtrP_paid {C : Codec} {F : Cf C} (hC : CodecOk C) (hX : ExtNo F.S F.noExt) (hL : HookLow F.S) {ctr : FuncId → Option (Ctr C)} (hctr : CtrOk F.S ctr) {f : FuncId} {fn : Func} {body : Code} (hf : F.S.P.funcs[f]? = some fn) (hb : fn.body = some body) (hk : F.S.hook f = none) (hp : F.S.pol f = .pure)
    (D : CtrD C) (fz : tys D.pats → AVal) (N : Nat) (hn : D.pats.length ≤ fn.ntmps) (hs : fn.ntmps ≤ 512) (hnd : nodupB ((allK body []).map (·.1)) = true)
    (hentry : ∀ x, D.pre x → Paid (entryX F ctr N fn body ⟨[], D.res x, D.objs x⟩ (argsS D.pats x)))
    (hfz : ∀ x, D.pre x → ∀ (E' : Env) (n0 : Nat) (H' : Heap) (v : AVal), SimH E' n0 0 ((D.objs x).map some) H' → Er E' (D.res x) v → frz n0 H' true 64 v = some (fz x)) : CtrOk1 F.S f (mkCtr ⟨D.pats, D.pre, fun x => .a (fz x), fun _ => []⟩) :=
  mkCtrP_ok hC hX hL hctr hf hb hk hp D fz N (fun _ => []) hn hs hnd (fun x h => (hentry x h).out) (fun x h p hm => by cases hm) hfz
theorem frz_words (n0 : Nat) (H' : Heap) : (if 0 + 23 * 1 ≤ wordCells.length then Option.map (fun rows => AVal.list 1 rows (false && 23 == 23)) (frzss (frz n0 H' false 63) (chunk 1 23 (List.drop 0 wordCells))) else none) = some wordsV := by kernel_rfl
theorem wd_frz (E' : Env) (n0 : Nat) (H' : Heap) (v : AVal) (hS : SimH (C := cod) E' n0 0 [some (.cells (wordCells.map .a))] H') (h : Er (C := cod) E' (.sl 1 0 0 23 23 false) v) : frz n0 H' true 64 v = some wordsV := by
  cases h with
  | sl hβ =>
    rename_i b
    obtain ⟨b', as', g1, gw, g2, g3⟩ := hS.obj 0 _ rfl
    rw [hβ] at g1
    simp only [Option.some.injEq] at g1
    subst g1
    have hlo := hS.low 0 b (Nat.zero_le _) hβ
    have he : as' = wordCells := by
      refine List.ext_getElem? fun i => ?_
      rcases Nat.lt_or_ge i wordCells.length with hi | hi
      · have h1 : (wordCells.map (SV.a (T := cod.T)))[i]? = some (.a wordCells[i]) := by rw [List.getElem?_map, List.getElem?_eq_getElem hi]; rfl
        have hl : as'.length = wordCells.length := by have := g3.1; rw [List.length_map] at this; exact this.symm
        have h2 : as'[i]? = some as'[i] := List.getElem?_eq_getElem (by omega)
        have h3 := g3.2 i _ _ h1 h2
        rw [h2, List.getElem?_eq_getElem hi, er_a h3]
      · have hl : as'.length = wordCells.length := by have := g3.1; rw [List.length_map] at this; exact this.symm
        rw [List.getElem?_eq_none hi, List.getElem?_eq_none (by omega)]
    rw [he] at g2
    unfold frz
    simp only
    rw [if_neg (by omega), g2]
    exact frz_words n0 H'
theorem wd_paid : Paid (entryX F (lookC ([] : List (FuncId × Ctr cod))) 200 Tryz.f11 b11 ⟨[], .sl 1 0 0 23 23 false, [.cells (wordCells.map .a)]⟩ []) := by
  refine ⟨?_⟩
  rw [wd_e]
  exact ⟨rfl, rfl, rfl, rfl, rfl, rfl, rfl, rfl, rfl, rfl, rfl, rfl, rfl, rfl, rfl, rfl, rfl, rfl, rfl, rfl, rfl, rfl, rfl, trivial⟩
def wdC : CtrD cod := ⟨[], fun x => True, fun x => .a wordsV, fun _ => []⟩
theorem wdOk : CtrOk1 F.S 11 (mkCtr wdC) :=
  mkCtrP_paid (fn := Tryz.f11) (body := b11) codOk noExt hookLow noneOk Tryz.func11 rfl (by kernel_rfl) (by kernel_rfl) wdD (fun _ => wordsV) 200 (show 0 ≤ 2 by decide) (show 2 ≤ 512 by decide) (by kernel_rfl)
    (fun x hp => wd_paid) (fun x hp E' n0 H' v hS h => wd_frz E' n0 H' v hS h)
theorem wordsOk : CtrOk1 F.S 11 wordsCtr := by
  intro E lo wlo args h H K av hh hS hA
  unfold wordsCtr at hh
  split at hh
  · obtain ⟨v, H', sv, h', E', h1, h2, h3, h4, h5, h6, h7⟩ := wdOk E lo wlo [] h H (fun sv h' => .need (sv = .a wordsV ∧ h' = h) (K (.tl (T := T) 3 wordsL) h')) av ⟨trivial, ⟨rfl, List.append_nil _⟩, by rw [show h ++ (wdC.objs ()).map (fun o => some (shiftO h.length o)) = h from List.append_nil _]; exact hh⟩ hS hA
    obtain ⟨⟨rfl, rfl⟩, h8⟩ := h7
    cases h6
    exact ⟨wordsV, H', _, h', E', h1, h2, h3, h4, h5, strs_er _ _, h8⟩
  · exact (stuck_no hh).elim

end Go.Proofs.YtbbbpnaghipfmaaGreatDoor
