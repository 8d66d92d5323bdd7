/- The document's own line of an instruction: its contract is paid. -/
import Derived.Test.YtbbbpnaghipfmaaGreatDoorLn
namespace Go.Proofs.YtbbbpnaghipfmaaGreatDoor
open Go.RowKit Go.Am Go.Sy
set_option linter.unusedVariables false
set_option linter.unusedSimpArgs false

theorem rn_e (x : Ins) : Go.Sy.Tree.holds (entryX F (lookC l10) 400 Tryz.f5 b5 ⟨[], .tup [.s (lineR x), .b (mayB x)], []⟩ [.agg (enc2 x)]) = ( mayD.pre (Ins.mk x.op x.a x.b x.c x.n, ()) ∧ ((!mayB (Ins.mk x.op x.a x.b x.c
 x.n)) = true → [] = lineR x ∧ false = mayB x ∧ True) ∧ ((!mayB (Ins.mk x.op x.a x.b x.c x.n)) = false → fdD.pre (x.op, ()) ∧ ((0 : Int) ≤ x.op ∧ x.op < 23) ∧ ((x.op == 13) = true → ((x.b == 1) = true → (decide (shA x.op
 > 0) = true → decD.pre (x.a, ()) ∧ (↑([(32 : UInt8)].length + (decS x.a).length) : Int) ≤ 9223372036854775807 ∧ (↑([(114 : UInt8), 101, 97, 100].length + ([(32 : UInt8)] ++ decS x.a).length) : Int) ≤ 9223372036854775807
 ∧ (decide (shC x.op > 0) = true → decD.pre (x.c, ()) ∧ (↑([(32 : UInt8)].length + (decS x.c).length) : Int) ≤ 9223372036854775807 ∧ (↑(([(114 : UInt8), 101, 97, 100] ++ ([(32 : UInt8)] ++ decS x.a)).length + ([(32 :
 UInt8)] ++ decS x.c).length) : Int) ≤ 9223372036854775807 ∧ ((shN x.op == 5) = true → decD.pre (x.n, ()) ∧ (↑([(32 : UInt8)].length + (decS x.n).length) : Int) ≤ 9223372036854775807 ∧ (↑(([(114 : UInt8), 101, 97, 100] ++
 ([(32 : UInt8)] ++ decS x.a) ++ ([(32 : UInt8)] ++ decS x.c)).length + ([(32 : UInt8)] ++ decS x.n).length) : Int) ≤ 9223372036854775807 ∧ [(114 : UInt8), 101, 97, 100] ++ ([(32 : UInt8)] ++ decS x.a) ++ ([(32 : UInt8)]
 ++ decS x.c) ++ ([(32 : UInt8)] ++ decS x.n) = lineR x ∧ true = mayB x ∧ True) ∧ ((shN x.op == 5) = false → [(114 : UInt8), 101, 97, 100] ++ ([(32 : UInt8)] ++ decS x.a) ++ ([(32 : UInt8)] ++ decS x.c) = lineR x ∧ true =
 mayB x ∧ True)) ∧ (decide (shC x.op > 0) = false → ((shN x.op == 5) = true → decD.pre (x.n, ()) ∧ (↑([(32 : UInt8)].length + (decS x.n).length) : Int) ≤ 9223372036854775807 ∧ (↑(([(114 : UInt8), 101, 97, 100] ++ ([(32 :
 UInt8)] ++ decS x.a)).length + ([(32 : UInt8)] ++ decS x.n).length) : Int) ≤ 9223372036854775807 ∧ [(114 : UInt8), 101, 97, 100] ++ ([(32 : UInt8)] ++ decS x.a) ++ ([(32 : UInt8)] ++ decS x.n) = lineR x ∧ true = mayB x ∧
 True) ∧ ((shN x.op == 5) = false → [(114 : UInt8), 101, 97, 100] ++ ([(32 : UInt8)] ++ decS x.a) = lineR x ∧ true = mayB x ∧ True))) ∧ (decide (shA x.op > 0) = false → (decide (shC x.op > 0) = true → decD.pre (x.c, ()) ∧
 (↑([(32 : UInt8)].length + (decS x.c).length) : Int) ≤ 9223372036854775807 ∧ (↑([(114 : UInt8), 101, 97, 100].length + ([(32 : UInt8)] ++ decS x.c).length) : Int) ≤ 9223372036854775807 ∧ ((shN x.op == 5) = true →
 decD.pre (x.n, ()) ∧ (↑([(32 : UInt8)].length + (decS x.n).length) : Int) ≤ 9223372036854775807 ∧ (↑(([(114 : UInt8), 101, 97, 100] ++ ([(32 : UInt8)] ++ decS x.c)).length + ([(32 : UInt8)] ++ decS x.n).length) : Int) ≤
 9223372036854775807 ∧ [(114 : UInt8), 101, 97, 100] ++ ([(32 : UInt8)] ++ decS x.c) ++ ([(32 : UInt8)] ++ decS x.n) = lineR x ∧ true = mayB x ∧ True) ∧ ((shN x.op == 5) = false → [(114 : UInt8), 101, 97, 100] ++ ([(32 :
 UInt8)] ++ decS x.c) = lineR x ∧ true = mayB x ∧ True)) ∧ (decide (shC x.op > 0) = false → ((shN x.op == 5) = true → decD.pre (x.n, ()) ∧ (↑([(32 : UInt8)].length + (decS x.n).length) : Int) ≤ 9223372036854775807 ∧
 (↑([(114 : UInt8), 101, 97, 100].length + ([(32 : UInt8)] ++ decS x.n).length) : Int) ≤ 9223372036854775807 ∧ [(114 : UInt8), 101, 97, 100] ++ ([(32 : UInt8)] ++ decS x.n) = lineR x ∧ true = mayB x ∧ True) ∧ ((shN x.op
 == 5) = false → [(114 : UInt8), 101, 97, 100] = lineR x ∧ true = mayB x ∧ True)))) ∧ ((x.b == 1) = false → (decide (shA x.op > 0) = true → decD.pre (x.a, ()) ∧ (↑([(32 : UInt8)].length + (decS x.a).length) : Int) ≤
 9223372036854775807 ∧ (↑((at3 wordsL x.op).length + ([(32 : UInt8)] ++ decS x.a).length) : Int) ≤ 9223372036854775807 ∧ (decide (shC x.op > 0) = true → decD.pre (x.c, ()) ∧ (↑([(32 : UInt8)].length + (decS x.c).length) :
 Int) ≤ 9223372036854775807 ∧ (↑((at3 wordsL x.op ++ ([(32 : UInt8)] ++ decS x.a)).length + ([(32 : UInt8)] ++ decS x.c).length) : Int) ≤ 9223372036854775807 ∧ ((shN x.op == 5) = true → decD.pre (x.n, ()) ∧ (↑([(32 :
 UInt8)].length + (decS x.n).length) : Int) ≤ 9223372036854775807 ∧ (↑((at3 wordsL x.op ++ ([(32 : UInt8)] ++ decS x.a) ++ ([(32 : UInt8)] ++ decS x.c)).length + ([(32 : UInt8)] ++ decS x.n).length) : Int) ≤
 9223372036854775807 ∧ at3 wordsL x.op ++ ([(32 : UInt8)] ++ decS x.a) ++ ([(32 : UInt8)] ++ decS x.c) ++ ([(32 : UInt8)] ++ decS x.n) = lineR x ∧ true = mayB x ∧ True) ∧ ((shN x.op == 5) = false → at3 wordsL x.op ++
 ([(32 : UInt8)] ++ decS x.a) ++ ([(32 : UInt8)] ++ decS x.c) = lineR x ∧ true = mayB x ∧ True)) ∧ (decide (shC x.op > 0) = false → ((shN x.op == 5) = true → decD.pre (x.n, ()) ∧ (↑([(32 : UInt8)].length + (decS
 x.n).length) : Int) ≤ 9223372036854775807 ∧ (↑((at3 wordsL x.op ++ ([(32 : UInt8)] ++ decS x.a)).length + ([(32 : UInt8)] ++ decS x.n).length) : Int) ≤ 9223372036854775807 ∧ at3 wordsL x.op ++ ([(32 : UInt8)] ++ decS
 x.a) ++ ([(32 : UInt8)] ++ decS x.n) = lineR x ∧ true = mayB x ∧ True) ∧ ((shN x.op == 5) = false → at3 wordsL x.op ++ ([(32 : UInt8)] ++ decS x.a) = lineR x ∧ true = mayB x ∧ True))) ∧ (decide (shA x.op > 0) = false →
 (decide (shC x.op > 0) = true → decD.pre (x.c, ()) ∧ (↑([(32 : UInt8)].length + (decS x.c).length) : Int) ≤ 9223372036854775807 ∧ (↑((at3 wordsL x.op).length + ([(32 : UInt8)] ++ decS x.c).length) : Int) ≤
 9223372036854775807 ∧ ((shN x.op == 5) = true → decD.pre (x.n, ()) ∧ (↑([(32 : UInt8)].length + (decS x.n).length) : Int) ≤ 9223372036854775807 ∧ (↑((at3 wordsL x.op ++ ([(32 : UInt8)] ++ decS x.c)).length + ([(32 :
 UInt8)] ++ decS x.n).length) : Int) ≤ 9223372036854775807 ∧ at3 wordsL x.op ++ ([(32 : UInt8)] ++ decS x.c) ++ ([(32 : UInt8)] ++ decS x.n) = lineR x ∧ true = mayB x ∧ True) ∧ ((shN x.op == 5) = false → at3 wordsL x.op
 ++ ([(32 : UInt8)] ++ decS x.c) = lineR x ∧ true = mayB x ∧ True)) ∧ (decide (shC x.op > 0) = false → ((shN x.op == 5) = true → decD.pre (x.n, ()) ∧ (↑([(32 : UInt8)].length + (decS x.n).length) : Int) ≤
 9223372036854775807 ∧ (↑((at3 wordsL x.op).length + ([(32 : UInt8)] ++ decS x.n).length) : Int) ≤ 9223372036854775807 ∧ at3 wordsL x.op ++ ([(32 : UInt8)] ++ decS x.n) = lineR x ∧ true = mayB x ∧ True) ∧ ((shN x.op == 5)
 = false → at3 wordsL x.op = lineR x ∧ true = mayB x ∧ True))))) ∧ ((x.op == 13) = false → (decide (shA x.op > 0) = true → decD.pre (x.a, ()) ∧ (↑([(32 : UInt8)].length + (decS x.a).length) : Int) ≤ 9223372036854775807 ∧
 (↑((at3 wordsL x.op).length + ([(32 : UInt8)] ++ decS x.a).length) : Int) ≤ 9223372036854775807 ∧ (decide (shB x.op > 0) = true → decD.pre (x.b, ()) ∧ (↑([(32 : UInt8)].length + (decS x.b).length) : Int) ≤
 9223372036854775807 ∧ (↑((at3 wordsL x.op ++ ([(32 : UInt8)] ++ decS x.a)).length + ([(32 : UInt8)] ++ decS x.b).length) : Int) ≤ 9223372036854775807 ∧ (decide (shC x.op > 0) = true → decD.pre (x.c, ()) ∧ (↑([(32 :
 UInt8)].length + (decS x.c).length) : Int) ≤ 9223372036854775807 ∧ (↑((at3 wordsL x.op ++ ([(32 : UInt8)] ++ decS x.a) ++ ([(32 : UInt8)] ++ decS x.b)).length + ([(32 : UInt8)] ++ decS x.c).length) : Int) ≤
 9223372036854775807 ∧ ((shN x.op == 5) = true → decD.pre (x.n, ()) ∧ (↑([(32 : UInt8)].length + (decS x.n).length) : Int) ≤ 9223372036854775807 ∧ (↑((at3 wordsL x.op ++ ([(32 : UInt8)] ++ decS x.a) ++ ([(32 : UInt8)] ++
 decS x.b) ++ ([(32 : UInt8)] ++ decS x.c)).length + ([(32 : UInt8)] ++ decS x.n).length) : Int) ≤ 9223372036854775807 ∧ at3 wordsL x.op ++ ([(32 : UInt8)] ++ decS x.a) ++ ([(32 : UInt8)] ++ decS x.b) ++ ([(32 : UInt8)]
 ++ decS x.c) ++ ([(32 : UInt8)] ++ decS x.n) = lineR x ∧ true = mayB x ∧ True) ∧ ((shN x.op == 5) = false → at3 wordsL x.op ++ ([(32 : UInt8)] ++ decS x.a) ++ ([(32 : UInt8)] ++ decS x.b) ++ ([(32 : UInt8)] ++ decS x.c)
 = lineR x ∧ true = mayB x ∧ True)) ∧ (decide (shC x.op > 0) = false → ((shN x.op == 5) = true → decD.pre (x.n, ()) ∧ (↑([(32 : UInt8)].length + (decS x.n).length) : Int) ≤ 9223372036854775807 ∧ (↑((at3 wordsL x.op ++
 ([(32 : UInt8)] ++ decS x.a) ++ ([(32 : UInt8)] ++ decS x.b)).length + ([(32 : UInt8)] ++ decS x.n).length) : Int) ≤ 9223372036854775807 ∧ at3 wordsL x.op ++ ([(32 : UInt8)] ++ decS x.a) ++ ([(32 : UInt8)] ++ decS x.b)
 ++ ([(32 : UInt8)] ++ decS x.n) = lineR x ∧ true = mayB x ∧ True) ∧ ((shN x.op == 5) = false → at3 wordsL x.op ++ ([(32 : UInt8)] ++ decS x.a) ++ ([(32 : UInt8)] ++ decS x.b) = lineR x ∧ true = mayB x ∧ True))) ∧ (decide
 (shB x.op > 0) = false → (decide (shC x.op > 0) = true → decD.pre (x.c, ()) ∧ (↑([(32 : UInt8)].length + (decS x.c).length) : Int) ≤ 9223372036854775807 ∧ (↑((at3 wordsL x.op ++ ([(32 : UInt8)] ++ decS x.a)).length +
 ([(32 : UInt8)] ++ decS x.c).length) : Int) ≤ 9223372036854775807 ∧ ((shN x.op == 5) = true → decD.pre (x.n, ()) ∧ (↑([(32 : UInt8)].length + (decS x.n).length) : Int) ≤ 9223372036854775807 ∧ (↑((at3 wordsL x.op ++ ([(32
 : UInt8)] ++ decS x.a) ++ ([(32 : UInt8)] ++ decS x.c)).length + ([(32 : UInt8)] ++ decS x.n).length) : Int) ≤ 9223372036854775807 ∧ at3 wordsL x.op ++ ([(32 : UInt8)] ++ decS x.a) ++ ([(32 : UInt8)] ++ decS x.c) ++
 ([(32 : UInt8)] ++ decS x.n) = lineR x ∧ true = mayB x ∧ True) ∧ ((shN x.op == 5) = false → at3 wordsL x.op ++ ([(32 : UInt8)] ++ decS x.a) ++ ([(32 : UInt8)] ++ decS x.c) = lineR x ∧ true = mayB x ∧ True)) ∧ (decide
 (shC x.op > 0) = false → ((shN x.op == 5) = true → decD.pre (x.n, ()) ∧ (↑([(32 : UInt8)].length + (decS x.n).length) : Int) ≤ 9223372036854775807 ∧ (↑((at3 wordsL x.op ++ ([(32 : UInt8)] ++ decS x.a)).length + ([(32 :
 UInt8)] ++ decS x.n).length) : Int) ≤ 9223372036854775807 ∧ at3 wordsL x.op ++ ([(32 : UInt8)] ++ decS x.a) ++ ([(32 : UInt8)] ++ decS x.n) = lineR x ∧ true = mayB x ∧ True) ∧ ((shN x.op == 5) = false → at3 wordsL x.op
 ++ ([(32 : UInt8)] ++ decS x.a) = lineR x ∧ true = mayB x ∧ True)))) ∧ (decide (shA x.op > 0) = false → (decide (shB x.op > 0) = true → decD.pre (x.b, ()) ∧ (↑([(32 : UInt8)].length + (decS x.b).length) : Int) ≤
 9223372036854775807 ∧ (↑((at3 wordsL x.op).length + ([(32 : UInt8)] ++ decS x.b).length) : Int) ≤ 9223372036854775807 ∧ (decide (shC x.op > 0) = true → decD.pre (x.c, ()) ∧ (↑([(32 : UInt8)].length + (decS x.c).length) :
 Int) ≤ 9223372036854775807 ∧ (↑((at3 wordsL x.op ++ ([(32 : UInt8)] ++ decS x.b)).length + ([(32 : UInt8)] ++ decS x.c).length) : Int) ≤ 9223372036854775807 ∧ ((shN x.op == 5) = true → decD.pre (x.n, ()) ∧ (↑([(32 :
 UInt8)].length + (decS x.n).length) : Int) ≤ 9223372036854775807 ∧ (↑((at3 wordsL x.op ++ ([(32 : UInt8)] ++ decS x.b) ++ ([(32 : UInt8)] ++ decS x.c)).length + ([(32 : UInt8)] ++ decS x.n).length) : Int) ≤
 9223372036854775807 ∧ at3 wordsL x.op ++ ([(32 : UInt8)] ++ decS x.b) ++ ([(32 : UInt8)] ++ decS x.c) ++ ([(32 : UInt8)] ++ decS x.n) = lineR x ∧ true = mayB x ∧ True) ∧ ((shN x.op == 5) = false → at3 wordsL x.op ++
 ([(32 : UInt8)] ++ decS x.b) ++ ([(32 : UInt8)] ++ decS x.c) = lineR x ∧ true = mayB x ∧ True)) ∧ (decide (shC x.op > 0) = false → ((shN x.op == 5) = true → decD.pre (x.n, ()) ∧ (↑([(32 : UInt8)].length + (decS
 x.n).length) : Int) ≤ 9223372036854775807 ∧ (↑((at3 wordsL x.op ++ ([(32 : UInt8)] ++ decS x.b)).length + ([(32 : UInt8)] ++ decS x.n).length) : Int) ≤ 9223372036854775807 ∧ at3 wordsL x.op ++ ([(32 : UInt8)] ++ decS
 x.b) ++ ([(32 : UInt8)] ++ decS x.n) = lineR x ∧ true = mayB x ∧ True) ∧ ((shN x.op == 5) = false → at3 wordsL x.op ++ ([(32 : UInt8)] ++ decS x.b) = lineR x ∧ true = mayB x ∧ True))) ∧ (decide (shB x.op > 0) = false →
 (decide (shC x.op > 0) = true → decD.pre (x.c, ()) ∧ (↑([(32 : UInt8)].length + (decS x.c).length) : Int) ≤ 9223372036854775807 ∧ (↑((at3 wordsL x.op).length + ([(32 : UInt8)] ++ decS x.c).length) : Int) ≤
 9223372036854775807 ∧ ((shN x.op == 5) = true → decD.pre (x.n, ()) ∧ (↑([(32 : UInt8)].length + (decS x.n).length) : Int) ≤ 9223372036854775807 ∧ (↑((at3 wordsL x.op ++ ([(32 : UInt8)] ++ decS x.c)).length + ([(32 :
 UInt8)] ++ decS x.n).length) : Int) ≤ 9223372036854775807 ∧ at3 wordsL x.op ++ ([(32 : UInt8)] ++ decS x.c) ++ ([(32 : UInt8)] ++ decS x.n) = lineR x ∧ true = mayB x ∧ True) ∧ ((shN x.op == 5) = false → at3 wordsL x.op
 ++ ([(32 : UInt8)] ++ decS x.c) = lineR x ∧ true = mayB x ∧ True)) ∧ (decide (shC x.op > 0) = false → ((shN x.op == 5) = true → decD.pre (x.n, ()) ∧ (↑([(32 : UInt8)].length + (decS x.n).length) : Int) ≤
 9223372036854775807 ∧ (↑((at3 wordsL x.op).length + ([(32 : UInt8)] ++ decS x.n).length) : Int) ≤ 9223372036854775807 ∧ at3 wordsL x.op ++ ([(32 : UInt8)] ++ decS x.n) = lineR x ∧ true = mayB x ∧ True) ∧ ((shN x.op == 5)
 = false → at3 wordsL x.op = lineR x ∧ true = mayB x ∧ True))))))) := by kernel_rfl

theorem fitB_ok {k v : Int} (h : fitB k v = true) : okI v := by
  simp only [fitB, Bool.and_eq_true, decide_eq_true_eq] at h
  have : mostK k ≤ 3 := by
    unfold mostK
    repeat' split
    all_goals decide
  exact ⟨by omega, by omega⟩
theorem may_parts {x : Ins} (h : mayB x = true) : 1 ≤ x.op ∧ x.op ≤ 22 ∧ okI x.a ∧ okI x.b ∧ okI x.c := by
  simp only [mayB, Bool.and_eq_true, decide_eq_true_eq] at h
  exact ⟨h.1, h.2.1, fitB_ok h.2.2.1, fitB_ok h.2.2.2.1, fitB_ok h.2.2.2.2.1⟩
theorem words_len (op : Int) (h1 : 1 ≤ op) (h2 : op ≤ 22) : (at3 wordsL op).length ≤ 6 := by
  obtain ⟨n, rfl⟩ := Int.eq_ofNat_of_zero_le (show 0 ≤ op by omega)
  have h : n < wordsL.length := by show n < 23; omega
  rw [at3_get h]
  have hall : (wordsL.all fun w => w.length ≤ 6) = true := by kernel_rfl
  simpa using List.all_eq_true.1 hall _ (List.getElem_mem h)
theorem rn_e_ok (x : Ins) : Paid (entryX F (lookC l10) 400 Tryz.f5 b5 ⟨[], .tup [.s (lineR x), .b (mayB x)], []⟩ [.agg (enc2 x)]) := by
  refine ⟨?_⟩
  rw [rn_e]
  obtain ⟨op, a, b, c, n⟩ := x
  have la := decS_len a
  have lb := decS_len b
  have lc := decS_len c
  have ln := decS_len n
  refine ⟨trivial, fun h => ?_, fun h => ?_⟩
  · have hm : mayB ⟨op, a, b, c, n⟩ = false := by simpa using h
    rw [lineR, hm]
    exact ⟨rfl, rfl, trivial⟩
  have hm : mayB ⟨op, a, b, c, n⟩ = true := by simpa using h
  obtain ⟨h1, h22, oa, ob, oc⟩ := may_parts hm
  have hL : lineR ⟨op, a, b, c, n⟩ = lineS ⟨op, a, b, c, n⟩ := if_pos hm
  simp only at h1 h22 oa ob oc
  rw [hL, hm]
  have lw : (at3 wordsL op).length ≤ 6 := words_len op h1 h22
  have hb13 : op = 13 → shB op = 4 := fun e => by subst e; rfl
  clear h hm hL
  refine ⟨trivial, ⟨by show (0 : Int) ≤ op; omega, by show op < 23; omega⟩, ?_⟩
  dsimp only
  unfold lineS wordB
  generalize at3 wordsL op = w at *
  repeat' (first | apply And.intro | intro _)
  all_goals first
    | exact trivial
    | (simp only [List.length_append, List.length_cons, List.length_nil]; omega)
    | (simp_all [-Int.not_lt]; done)
theorem l10Ok : CtrOk F.S (lookC l10) := lookC_ok fun p h => by
  simp only [l10, List.mem_cons, List.not_mem_nil, or_false] at h
  rcases h with rfl | rfl | rfl | rfl
  · exact miOk
  · exact fdOk
  · exact wordsOk
  · exact decOk
theorem rnOk : CtrOk1 F.S 5 (mkCtr lnD) :=
  mkCtr_paid (fn := Tryz.f5) (body := b5) (ctr := lookC l10) codOk noExt hookLow l10Ok Tryz.func5 rfl rfl rfl lnD 400 (fun _ => []) (show 1 ≤ Tryz.f5.ntmps by decide) (show Tryz.f5.ntmps ≤ 512 by decide) (by kernel_rfl) (fun _ _ => ⟨rfl, rfl⟩)
    (fun (x : Ins × Unit) hp => rn_e_ok x.1) (fun x hp p hm => by cases hm)
theorem lineR_len (x : Ins) : (lineR x).length ≤ 200 := by
  unfold lineR
  split
  · rename_i hm
    obtain ⟨h1, h2, _⟩ := may_parts hm
    have hw := words_len x.op h1 h2
    have la := decS_len x.a
    have lb := decS_len x.b
    have lc := decS_len x.c
    have ln := decS_len x.n
    have h0 : (wordB x.op x.b).length ≤ 6 := by
      unfold wordB
      split
      · simp
      · exact hw
    unfold lineS
    simp only [List.length_append]
    repeat' split
    all_goals simp only [List.length_append, List.length_cons, List.length_nil]
    all_goals omega
  · simp

end Go.Proofs.YtbbbpnaghipfmaaGreatDoor
