/- What closed calls and the library's functions answer, over rows. -/
import Derived.Test.YtbbbpnaghipfmaaDoorSx
namespace Go.Proofs.YtbbbpnaghipfmaaDoor
open Go.RowKit Go.Am Go.Sy
set_option linter.unusedVariables false

/-- A call that turns nothing, by its hook. -/
theorem quiet_out {f : FuncId} {hk : Nat → List AVal → Heap → Option (AVal × Heap)} (hk0 : F.S.hook f = some hk) {E : Env} {lo wlo : Nat} {h : SH cod} {H : Heap} {K : SV cod.T → SH cod → Go.Sy.Tree} {av : List AVal} {v : AVal} {sv : SV cod.T}
    (h1 : hk lo av H = some (v, H)) (hS : SimH E lo wlo h H) (hv : Er E sv v) (hh : (K sv h).holds) :
    Out E lo wlo h H (fun v H' => ∃ n, callA F.S (execA F.S n) lo f av H = some (v, H')) K :=
  ⟨v, H, sv, h, E, ⟨0, by simp only [callA, hk0]; exact h1⟩, LeN.refl _ _, Nat.le_refl _, hS, Nat.le_refl _, hv, hh⟩

/-- told -/
noncomputable def tellCtr : Ctr cod := fun _ args h K => match args with
  | [] => K (.a (.bool true)) h
  | _ => .stuck "told"
theorem hook7 : F.S.hook 7 = some (litFun toldL 7) := by kernel_rfl
theorem hook32 : F.S.hook 32 = some (litFun toldL 32) := by kernel_rfl
theorem hook15 : F.S.hook 15 = some (litFun toldL 15) := by kernel_rfl
theorem hook42 : F.S.hook 42 = some splitHook := by kernel_rfl
theorem tellOk : CtrOk1 F.S 7 tellCtr := by
  intro E lo wlo args h H K av hh hS hA
  unfold tellCtr at hh
  split at hh
  · rw [hA.inv_nil]
    exact quiet_out hook7 rfl hS (.a _) hh
  · exact (stuck_no hh).elim

/-- read, at a line that is known -/
noncomputable def insV (x : Ins) : SV cod.T := .agg [.i .i64 x.op, .i .i64 x.a, .i .i64 x.b, .i .i64 x.c, .i .i64 x.n]
noncomputable def readCtr : Ctr cod := fun _ args h K => match args with
  | [x] => match strOf x with
    | some s => .need (s ∈ lines) (.fork (okS s) (K (.tup [insV (insS s), .a .nili]) h) (K (.tup [.a (.agg [.int .i64 0, .int .i64 0, .int .i64 0, .int .i64 0, .int .i64 0]), .a (newV 3)]) h))
    | none => .stuck "read: what"
  | _ => .stuck "read"
theorem read_lit (s : List UInt8) (hs : s ∈ lines) (lo : Nat) (H : Heap) : litFun toldL 32 lo [.str s] H = some (readV s, H) := by
  have h : (lines.all fun s => match toldL.find? fun x => x.1 == 32 && litEqs x.2.1 [.str s] with | some x => (match x.2.1 with | [.str t] => t == s | _ => false) | none => false) = true := by kernel_rfl
  have h := List.all_eq_true.1 h s hs
  unfold litFun
  cases hf : toldL.find? fun x => x.1 == 32 && litEqs x.2.1 [.str s] with
  | none => rw [hf] at h; cases h
  | some x =>
    have hm := List.mem_of_find?_eq_some hf
    have hg := List.find?_some hf
    simp only [Bool.and_eq_true, beq_iff_eq] at hg
    obtain ⟨g, a, v⟩ := x
    obtain ⟨rfl, h2⟩ := hg
    have h2 : a = [.str s] := litEqs_is h2
    subst h2
    simp only [toldL, List.mem_cons, Prod.mk.injEq, List.mem_append, List.mem_map] at hm
    rcases hm with ⟨h3, _⟩ | ⟨t, _, _, h4, rfl⟩ | ⟨n, _, h3, _⟩
    · cases h3
    · simp only [List.cons.injEq, AVal.str.injEq, and_true] at h4
      subst h4
      rfl
    · cases h3
theorem bad_ins (s : List UInt8) (h : okS s = false) : insS s = ⟨0, 0, 0, 0, 0⟩ := by
  unfold okS at h
  unfold insS
  cases hf : goods.find? fun x => x.1 == s with
  | none => rfl
  | some x => rw [hf] at h; cases h
theorem ers2 {E : Env} {x y : SV cod.T} {a b : AVal} (h1 : Er E x a) (h2 : Er E y b) : Er E (.tup [x, y]) (.tup [a, b]) := by
  refine .tup rfl ?_
  intro i u c hi hj
  rcases i with _ | _ | i
  · cases hi; cases hj; exact h1
  · cases hi; cases hj; exact h2
  · simp at hi
theorem ins_er {E : Env} (x : Ins) : Er E (insV x) (.agg [.int .i64 x.op, .int .i64 x.a, .int .i64 x.b, .int .i64 x.c, .int .i64 x.n]) := by
  refine .agg rfl ?_
  intro i u c hi hj
  rcases i with _ | _ | _ | _ | _ | i <;> first | (simp at hi; done) | (cases hi; cases hj; exact .i _ _)
theorem readOk : CtrOk1 F.S 32 readCtr := by
  intro E lo wlo args h H K av hh hS hA
  unfold readCtr at hh
  split at hh
  · rename_i x
    obtain ⟨a0, as', rfl, h1, hA1⟩ := hA.inv_cons
    obtain rfl := hA1.inv_nil
    split at hh
    · rename_i s hs
      obtain rfl := strOf_ok h1 hs
      obtain ⟨hk, hh⟩ := hh
      cases ho : okS s with
      | true =>
        refine quiet_out hook32 (read_lit s hk lo H) hS ?_ (hh.1 ho)
        unfold readV
        rw [ho]
        exact ers2 (ins_er _) (.a _)
      | false =>
        refine quiet_out hook32 (read_lit s hk lo H) hS ?_ (hh.2 ho)
        unfold readV
        rw [ho, bad_ins s ho]
        exact ers2 (.a _) (.a _)
    · exact (stuck_no hh).elim
  · exact (stuck_no hh).elim

/-- Decimal, of 0 to 3 -/
def decS (n : Int) : List UInt8 := [48 + n.toNat.toUInt8]
noncomputable def decCtr : Ctr cod := fun _ args h K => match args with
  | [x] => match intOf x with
    | some (k, n) => if k = .i64 then .need (0 ≤ n ∧ n < 4) (K (.s (decS n)) h) else .stuck "dec: kind"
    | none => .stuck "dec: what"
  | _ => .stuck "dec"
theorem decOk : CtrOk1 F.S 15 decCtr := by
  intro E lo wlo args h H K av hh hS hA
  unfold decCtr at hh
  split at hh
  · rename_i x
    obtain ⟨a0, as', rfl, h1, hA1⟩ := hA.inv_cons
    obtain rfl := hA1.inv_nil
    split at hh
    · rename_i k n hs
      obtain rfl := intOf_ok h1 hs
      split at hh
      · rename_i e
        subst e
        obtain ⟨hk, hh⟩ := hh
        refine quiet_out hook15 (v := .str (decS n)) ?_ hS (.s _) hh
        obtain rfl | rfl | rfl | rfl : n = 0 ∨ n = 1 ∨ n = 2 ∨ n = 3 := by omega
        · rfl
        · rfl
        · rfl
        · rfl
      · exact (stuck_no hh).elim
    · exact (stuck_no hh).elim
  · exact (stuck_no hh).elim

/-- strings.genSplit, at a byte -/
noncomputable def splitCtr : Ctr cod := fun _ args h K => match args with
  | [x, y, z, w] => match strOf x, strOf y, intOf z, intOf w with
    | some s, some [c], some (k, n), some (k', m) => if k = .i64 ∧ n = 0 ∧ k' = .i64 ∧ m = -1 then .need (s.length < 4294967281) (K (.tl (T := T) 3 (splitL c s)) h) else .stuck "split: how"
    | _, _, _, _ => .stuck "split: what"
  | _ => .stuck "split"
theorem strs_er {E : Env} (l : List (List UInt8)) (ex : Bool) : Er (C := cod) E (.tl (T := T) 3 l) (.list 1 (l.map fun s => [.str s]) ex) := by
  refine .tlL (n := 3) rfl (List.length_map _) ?_ ?_
  · intro i r hr
    rw [List.getElem?_map, Option.map_eq_some_iff] at hr
    obtain ⟨s, _, rfl⟩ := hr
    rfl
  · intro i y r j x a h1 h2 h3 h4
    replace h1 : (l : List (List UInt8))[i]? = some y := h1
    rw [List.getElem?_map, h1] at h2
    obtain rfl := (Option.some.inj h2 : [AVal.str y] = r)
    rcases j with _ | j
    · cases h3; cases h4; exact .s _
    · simp at h4
theorem splitOk : CtrOk1 F.S 42 splitCtr := by
  intro E lo wlo args h H K av hh hS hA
  unfold splitCtr at hh
  split at hh
  · rename_i x y z w
    obtain ⟨a0, as1, rfl, h1, hA1⟩ := hA.inv_cons
    obtain ⟨a1, as2, rfl, h2, hA2⟩ := hA1.inv_cons
    obtain ⟨a2, as3, rfl, h3, hA3⟩ := hA2.inv_cons
    obtain ⟨a3, as4, rfl, h4, hA4⟩ := hA3.inv_cons
    obtain rfl := hA4.inv_nil
    split at hh
    · rename_i s c k n k' m e1 e2 e3 e4
      obtain rfl := strOf_ok h1 e1
      obtain rfl := strOf_ok h2 e2
      obtain rfl := intOf_ok h3 e3
      obtain rfl := intOf_ok h4 e4
      split at hh
      · rename_i e
        obtain ⟨rfl, rfl, rfl, rfl⟩ := e
        obtain ⟨hk, hh⟩ := hh
        refine quiet_out hook42 (v := .list 1 ((splitL c s).map fun x => [.str x]) true) ?_ hS (strs_er _ _) hh
        simp only [splitHook, hk, and_self, if_true]
      · exact (stuck_no hh).elim
    · exact (stuck_no hh).elim
  · exact (stuck_no hh).elim
end Go.Proofs.YtbbbpnaghipfmaaDoor
