/- strconv.Itoa, and what is told of an error: their contracts are paid. -/
import Derived.Test.YtomlcdalhihnaaaDoorIv
namespace Go.Proofs.YtomlcdalhihnaaaDoor
open Go.RowKit Go.Am Go.Sy
set_option linter.unusedVariables false

theorem it45 (n : Int) : Go.Sy.Tree.holds (entryX F (lookC n0) 200 Tryd.f45 b45 ⟨[], .s (decS n), []⟩ [.i .i64 n]) = ( ∃ (y : Unit), constA (Value.int IntKind.i64 (10 : Int)) = AVal.int IntKind.i64 (10 : Int) ∧ fiD.pre
 (n, y, ()) ∧ decS n = decS n ∧ True) := by kernel_rfl
theorem it40 (n : Int) : Go.Sy.Tree.holds (entryX F (lookC n1) 200 Tryd.f40 b40 ⟨[], .s (decS n), []⟩ [.i .i64 n]) = ( itoaD.pre (n, ()) ∧ decS n = decS n ∧ True) := by kernel_rfl
theorem tx_0 (i : Nat) (s : List UInt8) : Go.Sy.Tree.holds (entryX F (lookC l0) 200 Tryd.f18 b18 ⟨[], .s s, []⟩ [.a (.iface 119 (.eptr i [.str s]))]) = ( s = s ∧ True) := by kernel_rfl
theorem tx_1 (n : Nat) (t p : Int) (e : AVal) (r : List UInt8) : Go.Sy.Tree.holds (entryX F (lookC (t1 n)) 200 Tryd.f18 b18 ⟨[], .s r, []⟩ [.a (.iface 52 (.ipt [.int .i64 t, .int .i64 p, e]))]) = ( itoaD.pre (t, ()) ∧
 (↑([(116 : UInt8), (104 : UInt8), (114 : UInt8), (101 : UInt8), (97 : UInt8), (100 : UInt8), (32 : UInt8)].length + (decS t).length) : Int) ≤ (9223372036854775807 : Int) ∧ (↑(([(116 : UInt8), (104 : UInt8), (114 :
 UInt8), (101 : UInt8), (97 : UInt8), (100 : UInt8), (32 : UInt8)] ++ decS t).length + [(44 : UInt8), (32 : UInt8), (112 : UInt8), (108 : UInt8), (97 : UInt8), (99 : UInt8), (101 : UInt8), (32 : UInt8)].length) : Int) ≤
 (9223372036854775807 : Int) ∧ itoaD.pre (p, ()) ∧ (↑(([(116 : UInt8), (104 : UInt8), (114 : UInt8), (101 : UInt8), (97 : UInt8), (100 : UInt8), (32 : UInt8)] ++ decS t ++ [(44 : UInt8), (32 : UInt8), (112 : UInt8), (108
 : UInt8), (97 : UInt8), (99 : UInt8), (101 : UInt8), (32 : UInt8)]).length + (decS p).length) : Int) ≤ (9223372036854775807 : Int) ∧ (↑(([(116 : UInt8), (104 : UInt8), (114 : UInt8), (101 : UInt8), (97 : UInt8), (100 :
 UInt8), (32 : UInt8)] ++ decS t ++ [(44 : UInt8), (32 : UInt8), (112 : UInt8), (108 : UInt8), (97 : UInt8), (99 : UInt8), (101 : UInt8), (32 : UInt8)] ++ decS p).length + [(58 : UInt8), (32 : UInt8)].length) : Int) ≤
 (9223372036854775807 : Int) ∧ ∃ (y : Int × List P), e = ch y.fst y.snd ∧ (textD n).pre (y, ()) ∧ (↑(([(116 : UInt8), (104 : UInt8), (114 : UInt8), (101 : UInt8), (97 : UInt8), (100 : UInt8), (32 : UInt8)] ++ decS t ++
 [(44 : UInt8), (32 : UInt8), (112 : UInt8), (108 : UInt8), (97 : UInt8), (99 : UInt8), (101 : UInt8), (32 : UInt8)] ++ decS p ++ [(58 : UInt8), (32 : UInt8)]).length + (text y.fst y.snd).length) : Int) ≤
 (9223372036854775807 : Int) ∧ [(116 : UInt8), (104 : UInt8), (114 : UInt8), (101 : UInt8), (97 : UInt8), (100 : UInt8), (32 : UInt8)] ++ decS t ++ [(44 : UInt8), (32 : UInt8), (112 : UInt8), (108 : UInt8), (97 : UInt8),
 (99 : UInt8), (101 : UInt8), (32 : UInt8)] ++ decS p ++ [(58 : UInt8), (32 : UInt8)] ++ text y.fst y.snd = r ∧ True) := by kernel_rfl
theorem tx_n (n : Nat) (i : Nat) (s : List UInt8) : Go.Sy.Tree.holds (entryX F (lookC (t1 n)) 200 Tryd.f18 b18 ⟨[], .s s, []⟩ [.a (.iface 119 (.eptr i [.str s]))]) = ( s = s ∧ True) := by kernel_rfl

theorem it45_ok (n : Int) (h : inI n) : Paid (entryX F (lookC n0) 200 Tryd.f45 b45 ⟨[], .s (decS n), []⟩ [.i .i64 n]) := by
  refine ⟨?_⟩
  rw [it45]
  exact ⟨(), rfl, h, rfl, trivial⟩
theorem it40_ok (n : Int) (h : inI n) : Paid (entryX F (lookC n1) 200 Tryd.f40 b40 ⟨[], .s (decS n), []⟩ [.i .i64 n]) := by
  refine ⟨?_⟩
  rw [it40]
  exact ⟨h, rfl, trivial⟩
theorem it45Ok : CtrOk1 F.S 45 (mkCtr itoaD) :=
  mkCtr_paid (fn := Tryd.f45) (body := b45) (ctr := lookC n0) codOk noExt hookLow (lookC_ok fun p h => by
    simp only [n0, List.mem_cons, List.not_mem_nil, or_false] at h
    subst h
    exact fiOk) Tryd.func45 rfl rfl rfl itoaD 200 (fun _ => []) (show 1 ≤ 5 by decide) (show 5 ≤ 512 by decide) (by kernel_rfl) (fun _ _ => ⟨rfl, rfl⟩)
    (fun x hp => it45_ok x.1 hp) (fun x hp p hm => by cases hm)
theorem it40Ok : CtrOk1 F.S 40 (mkCtr itoaD) :=
  mkCtr_paid (fn := Tryd.f40) (body := b40) (ctr := lookC n1) codOk noExt hookLow (lookC_ok fun p h => by
    simp only [n1, List.mem_cons, List.not_mem_nil, or_false] at h
    subst h
    exact it45Ok) Tryd.func40 rfl rfl rfl itoaD 200 (fun _ => []) (show 1 ≤ 5 by decide) (show 5 ≤ 512 by decide) (by kernel_rfl) (fun _ _ => ⟨rfl, rfl⟩)
    (fun x hp => it40_ok x.1 hp) (fun x hp p hm => by cases hm)

theorem decS_len (n : Int) : (decS n).length ≤ 21 := by
  have h := mag_digits n
  have h2 : (decN (mag n)).length ≤ 20 := by
    unfold decN
    split
    · simp
    · exact h
  unfold decS
  split
  · rw [List.length_cons]; omega
  · omega
theorem codeT_len (c : Int) : (codeT c).length ≤ 7 := by
  unfold codeT
  generalize (c - 1).toNat = i
  rcases Nat.lt_or_ge i 10 with h | h
  · have : ∀ i, i < 10 → ((sentRows.getD i ("", 0, [])).2.2).length ≤ 7 := by decide
    exact this i h
  · rw [List.getD_eq_getElem?_getD, List.getElem?_eq_none (by simpa [sentRows] using h)]
    simp
theorem word1_len (x : P) : (word1 x).length ≤ 60 := by
  have h1 := decS_len x.t
  have h2 := decS_len x.p
  simp only [word1, sThread, sPlace, sColon, List.length_append, List.length_cons, List.length_nil]
  omega
theorem text_len (c : Int) : ∀ l : List P, (text c l).length ≤ 60 * l.length + 7
  | [] => by
    have := codeT_len c
    simp only [text, List.length_nil]
    omega
  | x :: l => by
    have h1 := word1_len x
    have h2 := text_len c l
    simp only [text, List.length_append, List.length_cons]
    omega
theorem tx_ok (n : Nat) (c : Int) (x : P) (l : List P) (hn : l.length ≤ n ∧ n ≤ 20 ∧ ∀ y ∈ l, okP y) (hx : okP x) : Paid (entryX F (lookC (t1 n)) 200 Tryd.f18 b18 ⟨[], .s (text c (x :: l)), []⟩ [.a (ch c (x :: l))]) := by
  refine ⟨?_⟩
  rw [ch_cons, tx_1]
  have h1 := decS_len x.t
  have h2 := decS_len x.p
  have h3 := text_len c l
  have h4 := hn.1
  have h5 := hn.2.1
  refine ⟨hx.1, ?_, ?_, hx.2, ?_, ?_, (c, l), rfl, hn, ?_, ?_, trivial⟩
  all_goals first
    | (simp only [List.length_append, List.length_cons, List.length_nil]; omega)
    | skip
  simp only [text, word1, sThread, sPlace, sColon, List.append_assoc]
theorem tx0_ok (c : Int) : Paid (entryX F (lookC l0) 200 Tryd.f18 b18 ⟨[], .s (text c []), []⟩ [.a (ch c [])]) := by
  refine ⟨?_⟩
  rw [ch_nil, newV, text, tx_0]
  exact ⟨rfl, trivial⟩
theorem txn_ok (n : Nat) (c : Int) : Paid (entryX F (lookC (t1 n)) 200 Tryd.f18 b18 ⟨[], .s (text c []), []⟩ [.a (ch c [])]) := by
  refine ⟨?_⟩
  rw [ch_nil, newV, text, tx_n]
  exact ⟨rfl, trivial⟩
theorem textOk : ∀ n, CtrOk1 F.S 18 (mkCtr (textD n))
  | 0 => mkCtr_paid (fn := Tryd.f18) (body := b18) (ctr := lookC l0) codOk noExt hookLow l0Ok Tryd.func18 rfl rfl rfl (textD 0) 200 (fun _ => []) (show 1 ≤ 7 by decide) (show 7 ≤ 512 by decide) (by kernel_rfl) (fun _ _ => ⟨rfl, rfl⟩)
    (fun (x : (Int × List P) × Unit) hp => by
      obtain ⟨⟨c, l⟩, u⟩ := x
      have hl : l = [] := List.length_eq_zero_iff.1 (Nat.le_zero.1 hp.1)
      subst hl
      exact tx0_ok c) (fun x hp p hm => by cases hm)
  | n + 1 => mkCtr_paid (fn := Tryd.f18) (body := b18) (ctr := lookC (t1 n)) codOk noExt hookLow (lookC_ok fun p h => by
      simp only [t1, List.mem_cons, List.not_mem_nil, or_false] at h
      rcases h with rfl | rfl
      · exact it40Ok
      · exact textOk n) Tryd.func18 rfl rfl rfl (textD (n + 1)) 200 (fun _ => []) (show 1 ≤ 7 by decide) (show 7 ≤ 512 by decide) (by kernel_rfl) (fun _ _ => ⟨rfl, rfl⟩)
    (fun (x : (Int × List P) × Unit) hp => by
      obtain ⟨⟨c, l⟩, u⟩ := x
      cases l with
      | nil => exact txn_ok n c
      | cons y l => exact tx_ok n c y l ⟨Nat.le_of_succ_le_succ hp.1, Nat.le_of_succ_le hp.2.1, fun z hz => hp.2.2 z (List.mem_cons_of_mem _ hz)⟩ (hp.2.2 y List.mem_cons_self)) (fun x hp p hm => by cases hm)
end Go.Proofs.YtomlcdalhihnaaaDoor
