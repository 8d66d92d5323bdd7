/- text.Print, walked on the model: over any slice of instructions that stands below. -/
import Derived.Test.YtbbbpnaghipfmaaDoorLr
import Derived.Lib.Walk
namespace Go.Proofs.YtbbbpnaghipfmaaDoor
open Go.RowKit Go.Am Go.Sy
set_option linter.unusedVariables false

def printGo : List Ins → List UInt8 → List UInt8 × Bool
  | [], acc => (acc, true)
  | x :: l, acc => if mayB x = true then printGo l (acc ++ lineR x ++ [10]) else ([], false)
def printR (p : List Ins) : List UInt8 × Bool := printGo p []
theorem lineR_len (x : Ins) : (lineR x).length ≤ 200 := by
  unfold lineR
  split
  · rename_i hm
    obtain ⟨h1, h2, _⟩ := may_parts hm
    have hw := words_len x.op h1 h2
    have la := decS_len x.a
    have lb := decS_len x.b
    have lc := decS_len x.c
    have ln := decS_len x.n
    have h0 : (wordB x.op x.b).length ≤ 6 := by
      unfold wordB
      split
      · simp
      · exact hw
    unfold lineS
    simp only [List.length_append]
    repeat' split
    all_goals simp only [List.length_append, List.length_cons, List.length_nil]
    all_goals omega
  · simp

/-- A builder in a world in which nothing has turned below. -/
theorem builder_kept {B b : Nat} {bs : List Value} {w w' : World} (h : Lib.IsBuilder 61 5 B b bs w) (hb : Below w.heap.size w w') : Lib.IsBuilder 61 5 B b bs w' := by
  have key : ∀ p, Lib.BuilderAt 61 5 B b p bs w → Lib.BuilderAt 61 5 B b p bs w' := by
    rintro p ⟨hB, v, hk, hown, hne⟩
    have lt : ∀ {k o}, w.heap[k]? = some o → k < w.heap.size := fun {k o} e => by
      rcases Nat.lt_or_ge k w.heap.size with h1 | h1
      · exact h1
      · rw [Array.getElem?_eq_none h1] at e; cases e
    refine ⟨hB, v, by rw [hb.block b (lt hk)]; exact hk, ?_, hne⟩
    obtain ⟨hl, h0 | ⟨g, cap, cur, hv, hbs, hh, r⟩⟩ := hown
    · exact ⟨hl, .inl h0⟩
    · exact ⟨hl, .inr ⟨g, cap, cur, hv, hbs, by rw [hb.block g (lt hh)]; exact hh, r⟩⟩
  rcases h with h | h
  · exact .inl (key _ h)
  · exact .inr (key _ h)

def insV (x : Ins) : List Value := ivV x
def flatV (p : List Ins) : List Value := (p.map ivV).flatten
theorem flat_at : ∀ (p : List Ins) (i j : Nat) (x : Ins), p[i]? = some x → j < 5 → (flatV p)[5 * i + j]? = (ivV x)[j]?
  | [], i, j, x, h, _ => by simp at h
  | y :: p, 0, j, x, h, hj => by
    simp only [List.getElem?_cons_zero, Option.some.injEq] at h
    subst h
    have hl : (ivV y).length = 5 := rfl
    show ((ivV y) ++ flatV p)[5 * 0 + j]? = _
    rw [Nat.mul_zero, Nat.zero_add, List.getElem?_append_left (by omega)]
  | y :: p, i + 1, j, x, h, hj => by
    simp only [List.getElem?_cons_succ] at h
    have hl : (ivV y).length = 5 := rfl
    show ((ivV y) ++ flatV p)[5 * (i + 1) + j]? = _
    rw [List.getElem?_append_right (by omega), hl, show 5 * (i + 1) + j - 5 = 5 * i + j by omega]
    exact flat_at p i j x h hj

set_option maxHeartbeats 4000000 in
set_option maxRecDepth 1000000 in
theorem print_walk {c : Cx} {H : Heap} (hR : Rel c H) (hG : GlobOk (St (fun _ => .keep) [] noXs) c) (p : List Ins) (so : Option Addr) (cap : Nat) (hp : p.length ≤ 1000) (hn : ∀ x ∈ p, okI x.n)
    (hs : p ≠ [] → ∃ B o, so = some ⟨B, o, none⟩ ∧ B < c.w.heap.size ∧ At c.w B o (flatV p)) :
    Calls Tryd.prog 11 #[.slice so p.length cap] c.w fun e w' => e = .returned (.tuple #[.string ⟨(printR p).1.toArray⟩, .bool (printR p).2]) ∧ Below c.w.heap.size c.w w' := by
  have hline : ∀ (wr : World), Below c.w.heap.size c.w wr → ∀ x ∈ p, Calls Tryd.prog 9 #[.agg (ivV x).toArray] wr fun e w' => e = .returned (.tuple #[.string ⟨(lineR x).toArray⟩, .bool (mayB x)]) ∧ Below wr.heap.size wr w' := by
    intro wr hb x hx
    obtain ⟨h1, h2, h3⟩ := hR.behind hb 0 (fun _ => False) (fun _ h => h.elim)
    exact line_calls (c := c.behind wr fun _ => False) h1 (GlobOk.ext h2.ext hG) x (hn x hx)
  have e9 : ∀ args w, (callFunc 9 args).run Tryd.prog w = .ok (.enter 9 args) w := enters_of Tryd.func9 (by kernel_rfl) rfl
  have e26 : ∀ args w, (callFunc 26 args).run Tryd.prog w = .ok (.enter 26 args) w := enters_of Tryd.func26 (by kernel_rfl) rfl
  have e27 : ∀ args w, (callFunc 27 args).run Tryd.prog w = .ok (.enter 27 args) w := enters_of Tryd.func27 (by kernel_rfl) rfl
  have e28 : ∀ args w, (callFunc 28 args).run Tryd.prog w = .ok (.enter 28 args) w := enters_of Tryd.func28 (by kernel_rfl) rfl
  go_enter Tryd.func11, Tryd.ntmps11
  go_wp2
  go_loopw [11] (fun i wr => ∃ (k : Nat) (acc : List UInt8), k ≤ p.length ∧ i = .int .i64 k ∧ Lib.IsBuilder 61 5 c.w.heap.size c.w.heap.size (Lib.byteCells acc) wr ∧ Below c.w.heap.size c.w wr ∧ printGo (p.drop k) acc = printR p ∧ acc.length ≤ 201 * k) (fun i _ => p.length - (intOf i).toNat)
  case atStart =>
    exact ⟨0, [], Nat.zero_le _, rfl, Lib.fresh_isBuilder 61 5 c.w, (Below.refl _ c.w).alloc (Nat.le_refl _) _, rfl, by simp⟩
  case round =>
    obtain ⟨k, acc, hk, rfl, hI, hbw, hacc, hal⟩ := hrel
    have hsz : c.w.heap.size ≤ wr.heap.size := hbw.size
    by_cases hlt : k < p.length
    · obtain ⟨B, o, rfl, hB, hat⟩ := hs (by rintro rfl; simp at hlt)
      have hx : p[k]? = some p[k] := List.getElem?_eq_getElem hlt
      have hmem : p[k] ∈ p := List.getElem_mem hlt
      generalize p[k] = x at hx hmem
      have hc : ∀ j v, (ivV x)[j]? = some v → wr.cell? ⟨B, o + (5 * k + j), none⟩ = some v := by
        intro j v hj
        have hj5 : j < 5 := by
          rcases Nat.lt_or_ge j 5 with h | h
          · exact h
          · rw [List.getElem?_eq_none (show (ivV x).length ≤ j from h)] at hj; cases hj
        rw [World.cell?_of_block (w := c.w) (hbw.block B hB)]
        exact hat (5 * k + j) v (by rw [flat_at p k j x hx hj5]; exact hj)
      have c0 : wr.cell? ⟨B, o + k * 5, none⟩ = some (.int .i64 x.op) := by have h := hc 0 _ rfl; rwa [show o + (5 * k + 0) = o + k * 5 by omega] at h
      have c1 : wr.cell? ⟨B, o + k * 5 + 1, none⟩ = some (.int .i64 x.a) := by have h := hc 1 _ rfl; rwa [show o + (5 * k + 1) = o + k * 5 + 1 by omega] at h
      have c2 : wr.cell? ⟨B, o + k * 5 + 2, none⟩ = some (.int .i64 x.b) := by have h := hc 2 _ rfl; rwa [show o + (5 * k + 2) = o + k * 5 + 2 by omega] at h
      have c3 : wr.cell? ⟨B, o + k * 5 + 3, none⟩ = some (.int .i64 x.c) := by have h := hc 3 _ rfl; rwa [show o + (5 * k + 3) = o + k * 5 + 3 by omega] at h
      have c4 : wr.cell? ⟨B, o + k * 5 + 4, none⟩ = some (.int .i64 x.n) := by have h := hc 4 _ rfl; rwa [show o + (5 * k + 4) = o + k * 5 + 4 by omega] at h
      have hkl : (k : Int) < p.length := by omega
      go_wp2_with (go_at_fn 9; refine (hline _ ?hb x hmem).mono ?_)
      case hb => exact hbw.alloc hsz _
      rintro e W1 ⟨rfl, b1⟩
      have hb1 : Below c.w.heap.size c.w W1 := (hbw.alloc hsz _).trans (b1.mono (by simp; omega))
      have hI1 : Lib.IsBuilder 61 5 c.w.heap.size c.w.heap.size (Lib.byteCells acc) W1 := builder_kept hI ((((Below.refl _ wr).alloc (Nat.le_refl _) _)).trans (b1.mono (by simp)))
      have hstep : printGo (p.drop k) acc = if mayB x = true then printGo (p.drop (k + 1)) (acc ++ lineR x ++ [10]) else ([], false) := by
        rw [List.drop_eq_getElem_cons hlt]
        have : p[k] = x := by rw [List.getElem?_eq_getElem hlt] at hx; exact Option.some.inj hx
        rw [this]
        rfl
      have hlen := lineR_len x
      cases hm : mayB x with
      | false =>
        rw [hm] at hstep
        go_wp2
        go_ret2
        rw [← hacc, hstep]
        exact ⟨rfl, hb1⟩
      | true =>
        rw [hm] at hstep
        go_wp2_with (go_at_fn 26; refine (writeString c.w.heap.size c.w.heap.size _ _ _ hI1 ?h1 hb1.size).mono ?_)
        case h1 => rw [Lib.byteCells_length]; show acc.length + (lineR x).toArray.size ≤ _; rw [List.size_toArray]; omega
        rintro e W2 ⟨rfl, h2, b2⟩
        have hb2 := hb1.trans b2
        go_wp2_with (go_at_fn 27; refine (writeByte c.w.heap.size c.w.heap.size _ 10 _ (.inr h2) ?h2 hb2.size).mono ?_)
        case h2 => rw [List.length_append, Lib.byteCells_length, Lib.strCells_length]; show acc.length + (lineR x).toArray.size + 1 ≤ _; rw [List.size_toArray]; omega
        rintro e W3 ⟨rfl, h3, b3⟩
        go_wp2
        go_roundw
        case rel =>
          refine ⟨k + 1, acc ++ lineR x ++ [10], hlt, by simp, ?_, hb2.trans b3, by rw [← hacc, hstep]; rfl, by simp; omega⟩
          rw [Lib.byteCells_append, Lib.byteCells_append]
          exact .inr h3
        case measure =>
          simp only [RowKit.intOf]
          omega
    · have hk : k = p.length := by omega
      subst hk
      have hlt2 : ¬ ((p.length : Int) < p.length) := by omega
      go_wp2_with (go_at_fn 28; refine (Tryd.Builder_String_any c.w.heap.size c.w.heap.size acc _ hI hsz).mono ?_)
      rintro e W1 rfl b1
      go_wp2
      go_ret2
      rw [List.drop_length] at hacc
      rw [← hacc]
      exact ⟨rfl, hbw.trans b1⟩
end Go.Proofs.YtbbbpnaghipfmaaDoor
