/- text.verb, and text.read at a line that was printed: the contracts are paid. Printed by a program (gen_rh.py). -/
import Derived.Test.YtbbbpnaghipfmaaDoorRg
namespace Go.Proofs.YtbbbpnaghipfmaaDoor
open Go.RowKit Go.Am Go.Sy
set_option linter.unusedVariables false
set_option linter.unusedSimpArgs false
variable {Z : Xs}

theorem vb_e (Z : Xs) (op b : Int) : Go.Sy.Tree.holds (entryX (F Z) (lookC []) 400 Tryd.f20 b20 ⟨[], .tup [.s (wordB op b), .s (fieldsOf op)], []⟩ [.i .i64 op, .i .i64 b]) = ( ((op == 1) = true → [(115 : UInt8), 101, 116]
 = wordB op b ∧ [(97 : UInt8), 110] = fieldsOf op ∧ True) ∧ ((op == 1) = false → ((op == 2) = true → [(97 : UInt8), 100, 100] = wordB op b ∧ [(97 : UInt8), 98, 99] = fieldsOf op ∧ True) ∧ ((op == 2) = false → ((op == 3) =
 true → [(115 : UInt8), 117, 98] = wordB op b ∧ [(97 : UInt8), 98, 99] = fieldsOf op ∧ True) ∧ ((op == 3) = false → ((op == 4) = true → [(109 : UInt8), 117, 108] = wordB op b ∧ [(97 : UInt8), 98, 99] = fieldsOf op ∧ True)
 ∧ ((op == 4) = false → ((op == 5) = true → [(120 : UInt8), 111, 114] = wordB op b ∧ [(97 : UInt8), 98, 99] = fieldsOf op ∧ True) ∧ ((op == 5) = false → ((op == 6) = true → [(108 : UInt8), 101, 115, 115] = wordB op b ∧
 [(97 : UInt8), 98, 99] = fieldsOf op ∧ True) ∧ ((op == 6) = false → ((op == 7) = true → [(115 : UInt8), 97, 109, 101] = wordB op b ∧ [(97 : UInt8), 98, 99] = fieldsOf op ∧ True) ∧ ((op == 7) = false → ((op == 8) = true →
 [(108 : UInt8), 111, 97, 100] = wordB op b ∧ [(97 : UInt8), 98, 110] = fieldsOf op ∧ True) ∧ ((op == 8) = false → ((op == 9) = true → [(115 : UInt8), 116, 111, 114, 101] = wordB op b ∧ [(97 : UInt8), 98, 110] = fieldsOf
 op ∧ True) ∧ ((op == 9) = false → ((op == 10) = true → [(116 : UInt8), 97, 107, 101] = wordB op b ∧ [(98 : UInt8), 110] = fieldsOf op ∧ True) ∧ ((op == 10) = false → ((op == 11) = true → [(103 : UInt8), 105, 118, 101] =
 wordB op b ∧ [(98 : UInt8), 110] = fieldsOf op ∧ True) ∧ ((op == 11) = false → ((op == 12) = true → [(108 : UInt8), 111, 103] = wordB op b ∧ [(97 : UInt8)] = fieldsOf op ∧ True) ∧ ((op == 12) = false → ((op == 13) = true
 → ((b == 1) = true → [(114 : UInt8), 101, 97, 100] = wordB op b ∧ [(97 : UInt8)] = fieldsOf op ∧ True) ∧ ((b == 1) = false → [(101 : UInt8), 110, 116, 101, (114 : UInt8)] = wordB op b ∧ [(97 : UInt8)] = fieldsOf op ∧
 True)) ∧ ((op == 13) = false → ((op == 14) = true → [(108 : UInt8), 101, 97, 118, (101 : UInt8)] = wordB op b ∧ [] = fieldsOf op ∧ True) ∧ ((op == 14) = false → ((op == 15) = true → [(119 : UInt8), 97, 105, (116 :
 UInt8)] = wordB op b ∧ [(97 : UInt8)] = fieldsOf op ∧ True) ∧ ((op == 15) = false → ((op == 16) = true → [(115 : UInt8), 105, 103, (110 : UInt8), 97, 108] = wordB op b ∧ [(97 : UInt8)] = fieldsOf op ∧ True) ∧ ((op == 16)
 = false → ((op == 17) = true → [(99 : UInt8), 97, 115, (116 : UInt8)] = wordB op b ∧ [(97 : UInt8)] = fieldsOf op ∧ True) ∧ ((op == 17) = false → ((op == 18) = true → [(105 : UInt8), 102] = wordB op b ∧ [(97 : UInt8)] =
 fieldsOf op ∧ True) ∧ ((op == 18) = false → ((op == 19) = true → [(101 : UInt8), 108, (115 : UInt8), 101] = wordB op b ∧ [] = fieldsOf op ∧ True) ∧ ((op == 19) = false → ((op == 20) = true → [(101 : UInt8), 110, (100 :
 UInt8)] = wordB op b ∧ [] = fieldsOf op ∧ True) ∧ ((op == 20) = false → ((op == 21) = true → [(108 : UInt8), 111, (111 : UInt8), (112 : UInt8)] = wordB op b ∧ [(97 : UInt8)] = fieldsOf op ∧ True) ∧ ((op == 21) = false →
 [(98 : UInt8), 97, (99 : UInt8), 107] = wordB op b ∧ [] = fieldsOf op ∧ True)))))))))))))))))))))) := by kernel_rfl
theorem rd_e (Z : Xs) (i : Ins) : Go.Sy.Tree.holds (entryX (F Z) (lookC l32) 600 Tryd.f32 b32 (rdF i) [.s (lineS i)]) = ( (lineS i).length < 4294967281 ∧ ∃ (s : RdS), splitL (32 : UInt8) (lineS i) = wordsOf i ∧ (1 : Int)
 = (↑s.k : Int) ∧ (0 : Int) = (↑s.b : Int) ∧ ((1 : Nat) ≤ s.k ∧ (↑s.k : Int) ≤ i.op ∧ s.b ≤ 2 ∧ ((↑s.k : Int) = i.op → (↑s.b : Int) ≤ bOf i)) ∧ True) := by kernel_rfl
theorem rd_6 (Z : Xs) (i : Ins) (k b : Nat) : Go.Sy.Tree.holds (cutVC (F Z) (lookC l32) 600 Tryd.f32 b32 (rdF i) 6 (rdC6 i) ⟨k, b⟩) = ( (decide ((↑b : Int) ≤ 1) = true → vbD.pre ((↑k : Int), (↑b : Int), ()) ∧ ((0 : Int) ≤
 0 ∧ (0 : Int) < (↑(wordsOf i).length : Int)) ∧ ((!wordB (↑k : Int) (↑b : Int) == at3 (wordsOf i) (0 : Int)) = true → ∃ (s : RdS), wordsOf i = wordsOf i ∧ (↑k : Int) = (↑s.k : Int) ∧ IntKind.i64.wrap ((↑b : Int) + 1) =
 (↑s.b : Int) ∧ ((1 : Nat) ≤ s.k ∧ (↑s.k : Int) ≤ i.op ∧ s.b ≤ 2 ∧ ((↑s.k : Int) = i.op → (↑s.b : Int) ≤ bOf i)) ∧ ((23 : Nat) - s.k) * 10 + ((2 : Nat) - s.b) * 2 + 1 < ((23 : Nat) - k) * 10 + ((2 : Nat) - b) * 2 + 1 ∧
 True) ∧ ((!wordB (↑k : Int) (↑b : Int) == at3 (wordsOf i) (0 : Int)) = false → (((↑(fieldsOf (↑k : Int)).length : Int) != IntKind.i64.wrap ((↑(wordsOf i).length : Int) - 1)) = true → ∃ (s : RdS), wordsOf i = wordsOf i ∧
 (↑k : Int) = (↑s.k : Int) ∧ IntKind.i64.wrap ((↑b : Int) + 1) = (↑s.b : Int) ∧ ((1 : Nat) ≤ s.k ∧ (↑s.k : Int) ≤ i.op ∧ s.b ≤ 2 ∧ ((↑s.k : Int) = i.op → (↑s.b : Int) ≤ bOf i)) ∧ ((23 : Nat) - s.k) * 10 + ((2 : Nat) -
 s.b) * 2 + 1 < ((23 : Nat) - k) * 10 + ((2 : Nat) - b) * 2 + 1 ∧ True) ∧ (((↑(fieldsOf (↑k : Int)).length : Int) != IntKind.i64.wrap ((↑(wordsOf i).length : Int) - 1)) = false → ∃ (b_1 : Bool), (b_1 = true → ∃ (s : RdS),
 wordsOf i = wordsOf i ∧ (↑k : Int) = (↑s.k : Int) ∧ (↑b : Int) = (↑s.b : Int) ∧ AVal.str (fieldsOf (↑k : Int)) = AVal.str [(97 : UInt8), 110] ∧ ((↑s.k : Int) = i.op ∧ (↑s.b : Int) = bOf i ∧ fieldsOf i.op = [(97 : UInt8),
 110]) ∧ ((23 : Nat) - s.k) * 10 + ((2 : Nat) - s.b) * 2 < ((23 : Nat) - k) * 10 + ((2 : Nat) - b) * 2 + 1 ∧ True) ∧ (b_1 = false → ∃ (b_2 : Bool), (b_2 = true → ∃ (s : RdS), wordsOf i = wordsOf i ∧ (↑k : Int) = (↑s.k :
 Int) ∧ (↑b : Int) = (↑s.b : Int) ∧ AVal.str (fieldsOf (↑k : Int)) = AVal.str [(97 : UInt8), 98, 99] ∧ ((↑s.k : Int) = i.op ∧ (↑s.b : Int) = bOf i ∧ fieldsOf i.op = [(97 : UInt8), 98, 99]) ∧ ((23 : Nat) - s.k) * 10 + ((2
 : Nat) - s.b) * 2 < ((23 : Nat) - k) * 10 + ((2 : Nat) - b) * 2 + 1 ∧ True) ∧ (b_2 = false → ∃ (b_3 : Bool), (b_3 = true → ∃ (s : RdS), wordsOf i = wordsOf i ∧ (↑k : Int) = (↑s.k : Int) ∧ (↑b : Int) = (↑s.b : Int) ∧
 AVal.str (fieldsOf (↑k : Int)) = AVal.str [(97 : UInt8), 98, 110] ∧ ((↑s.k : Int) = i.op ∧ (↑s.b : Int) = bOf i ∧ fieldsOf i.op = [(97 : UInt8), 98, 110]) ∧ ((23 : Nat) - s.k) * 10 + ((2 : Nat) - s.b) * 2 < ((23 : Nat) -
 k) * 10 + ((2 : Nat) - b) * 2 + 1 ∧ True) ∧ (b_3 = false → ∃ (b_4 : Bool), (b_4 = true → ∃ (s : RdS), wordsOf i = wordsOf i ∧ (↑k : Int) = (↑s.k : Int) ∧ (↑b : Int) = (↑s.b : Int) ∧ AVal.str (fieldsOf (↑k : Int)) =
 AVal.str [(98 : UInt8), 110] ∧ ((↑s.k : Int) = i.op ∧ (↑s.b : Int) = bOf i ∧ fieldsOf i.op = [(98 : UInt8), 110]) ∧ ((23 : Nat) - s.k) * 10 + ((2 : Nat) - s.b) * 2 < ((23 : Nat) - k) * 10 + ((2 : Nat) - b) * 2 + 1 ∧
 True) ∧ (b_4 = false → ∃ (b_5 : Bool), (b_5 = true → ∃ (s : RdS), wordsOf i = wordsOf i ∧ (↑k : Int) = (↑s.k : Int) ∧ (↑b : Int) = (↑s.b : Int) ∧ AVal.str (fieldsOf (↑k : Int)) = AVal.str [(97 : UInt8)] ∧ ((↑s.k : Int) =
 i.op ∧ (↑s.b : Int) = bOf i ∧ fieldsOf i.op = [(97 : UInt8)]) ∧ ((23 : Nat) - s.k) * 10 + ((2 : Nat) - s.b) * 2 < ((23 : Nat) - k) * 10 + ((2 : Nat) - b) * 2 + 1 ∧ True) ∧ (b_5 = false → ∃ (s : RdS), wordsOf i = wordsOf
 i ∧ (↑k : Int) = (↑s.k : Int) ∧ (↑b : Int) = (↑s.b : Int) ∧ AVal.str (fieldsOf (↑k : Int)) = AVal.str [] ∧ ((↑s.k : Int) = i.op ∧ (↑s.b : Int) = bOf i ∧ fieldsOf i.op = []) ∧ ((23 : Nat) - s.k) * 10 + ((2 : Nat) - s.b) *
 2 < ((23 : Nat) - k) * 10 + ((2 : Nat) - b) * 2 + 1 ∧ True)))))))) ∧ (decide ((↑b : Int) ≤ 1) = false → (decide (IntKind.i64.wrap ((↑k : Int) + 1) ≤ 22) = true → ∃ (s : RdS), wordsOf i = wordsOf i ∧ IntKind.i64.wrap ((↑k
 : Int) + 1) = (↑s.k : Int) ∧ (0 : Int) = (↑s.b : Int) ∧ ((1 : Nat) ≤ s.k ∧ (↑s.k : Int) ≤ i.op ∧ s.b ≤ 2 ∧ ((↑s.k : Int) = i.op → (↑s.b : Int) ≤ bOf i)) ∧ ((23 : Nat) - s.k) * 10 + ((2 : Nat) - s.b) * 2 + 1 < ((23 : Nat)
 - k) * 10 + ((2 : Nat) - b) * 2 + 1 ∧ True) ∧ (decide (IntKind.i64.wrap ((↑k : Int) + 1) ≤ 22) = false → (0 : Int) = i.op ∧ (0 : Int) = i.a ∧ (0 : Int) = i.b ∧ (0 : Int) = i.c ∧ (0 : Int) = i.n ∧ AVal.iface (164 :
 TypeId) (AVal.eptr (4 : Nat) [AVal.str [(99 : UInt8), 111, 100, 101, 32, (51 : UInt8)]]) = AVal.nili ∧ True))) := by kernel_rfl
theorem rd_10a (Z : Xs) (i : Ins) (k b : Nat) : Go.Sy.Tree.holds (cutVC (F Z) (lookC l32) 600 Tryd.f32 b32 (rdF i) 10 (rdC10 i [97, 110]) ⟨k, b⟩) = ( (((↑k : Int) == 13) = true → ((0 : Int) ≤ 1 ∧ (1 : Int) ≤ (↑(wordsOf
 i).length : Int) ∧ (↑(wordsOf i).length : Int) ≤ (↑(wordsOf i).length : Int)) ∧ ((0 : Int) ≤ 0 ∧ (0 : Int) < (↑(List.take ((↑(wordsOf i).length : Int).toNat - 1) (List.drop (1 : Nat) (wordsOf i))).length : Int)) ∧
 nmD.pre (at3 (List.take ((↑(wordsOf i).length : Int).toNat - 1) (List.drop (1 : Nat) (wordsOf i))) (0 : Int), ()) ∧ (decide (numV (at3 (List.take ((↑(wordsOf i).length : Int).toNat - 1) (List.drop (1 : Nat) (wordsOf i)))
 (0 : Int)) < 0) = true → ∃ (s : RdS), wordsOf i = wordsOf i ∧ (↑k : Int) = (↑s.k : Int) ∧ IntKind.i64.wrap ((↑b : Int) + 1) = (↑s.b : Int) ∧ ((1 : Nat) ≤ s.k ∧ (↑s.k : Int) ≤ i.op ∧ s.b ≤ 2 ∧ ((↑s.k : Int) = i.op → (↑s.b
 : Int) ≤ bOf i)) ∧ ((23 : Nat) - s.k) * 10 + ((2 : Nat) - s.b) * 2 + 1 < ((23 : Nat) - k) * 10 + ((2 : Nat) - b) * 2 ∧ True) ∧ (decide (numV (at3 (List.take ((↑(wordsOf i).length : Int).toNat - 1) (List.drop (1 : Nat)
 (wordsOf i))) (0 : Int)) < 0) = false → (decide (numV (at3 (List.take ((↑(wordsOf i).length : Int).toNat - 1) (List.drop (1 : Nat) (wordsOf i))) (0 : Int)) > 9) = true → ∃ (s : RdS), wordsOf i = wordsOf i ∧ (↑k : Int) =
 (↑s.k : Int) ∧ IntKind.i64.wrap ((↑b : Int) + 1) = (↑s.b : Int) ∧ ((1 : Nat) ≤ s.k ∧ (↑s.k : Int) ≤ i.op ∧ s.b ≤ 2 ∧ ((↑s.k : Int) = i.op → (↑s.b : Int) ≤ bOf i)) ∧ ((23 : Nat) - s.k) * 10 + ((2 : Nat) - s.b) * 2 + 1 <
 ((23 : Nat) - k) * 10 + ((2 : Nat) - b) * 2 ∧ True) ∧ (decide (numV (at3 (List.take ((↑(wordsOf i).length : Int).toNat - 1) (List.drop (1 : Nat) (wordsOf i))) (0 : Int)) > 9) = false → ((0 : Int) ≤ 1 ∧ (1 : Int) <
 (↑(List.take ((↑(wordsOf i).length : Int).toNat - 1) (List.drop (1 : Nat) (wordsOf i))).length : Int)) ∧ nmD.pre (at3 (List.take ((↑(wordsOf i).length : Int).toNat - 1) (List.drop (1 : Nat) (wordsOf i))) (1 : Int), ()) ∧
 mayD.pre (Ins.mk (↑k : Int) (numV (at3 (List.take ((↑(wordsOf i).length : Int).toNat - 1) (List.drop (1 : Nat) (wordsOf i))) (0 : Int))) (↑b : Int) (0 : Int) (numV (at3 (List.take ((↑(wordsOf i).length : Int).toNat - 1)
 (List.drop (1 : Nat) (wordsOf i))) (1 : Int))), ()) ∧ (mayB (Ins.mk (↑k : Int) (numV (at3 (List.take ((↑(wordsOf i).length : Int).toNat - 1) (List.drop (1 : Nat) (wordsOf i))) (0 : Int))) (↑b : Int) (0 : Int) (numV (at3
 (List.take ((↑(wordsOf i).length : Int).toNat - 1) (List.drop (1 : Nat) (wordsOf i))) (1 : Int)))) = true → (↑k : Int) = i.op ∧ numV (at3 (List.take ((↑(wordsOf i).length : Int).toNat - 1) (List.drop (1 : Nat) (wordsOf
 i))) (0 : Int)) = i.a ∧ (↑b : Int) = i.b ∧ (0 : Int) = i.c ∧ numV (at3 (List.take ((↑(wordsOf i).length : Int).toNat - 1) (List.drop (1 : Nat) (wordsOf i))) (1 : Int)) = i.n ∧ constA Value.nilIface = AVal.nili ∧ True) ∧
 (mayB (Ins.mk (↑k : Int) (numV (at3 (List.take ((↑(wordsOf i).length : Int).toNat - 1) (List.drop (1 : Nat) (wordsOf i))) (0 : Int))) (↑b : Int) (0 : Int) (numV (at3 (List.take ((↑(wordsOf i).length : Int).toNat - 1)
 (List.drop (1 : Nat) (wordsOf i))) (1 : Int)))) = false → ∃ (s : RdS), wordsOf i = wordsOf i ∧ (↑k : Int) = (↑s.k : Int) ∧ IntKind.i64.wrap ((↑b : Int) + 1) = (↑s.b : Int) ∧ ((1 : Nat) ≤ s.k ∧ (↑s.k : Int) ≤ i.op ∧ s.b ≤
 2 ∧ ((↑s.k : Int) = i.op → (↑s.b : Int) ≤ bOf i)) ∧ ((23 : Nat) - s.k) * 10 + ((2 : Nat) - s.b) * 2 + 1 < ((23 : Nat) - k) * 10 + ((2 : Nat) - b) * 2 ∧ True)))) ∧ (((↑k : Int) == 13) = false → ((0 : Int) ≤ 1 ∧ (1 : Int)
 ≤ (↑(wordsOf i).length : Int) ∧ (↑(wordsOf i).length : Int) ≤ (↑(wordsOf i).length : Int)) ∧ ((0 : Int) ≤ 0 ∧ (0 : Int) < (↑(List.take ((↑(wordsOf i).length : Int).toNat - 1) (List.drop (1 : Nat) (wordsOf i))).length :
 Int)) ∧ nmD.pre (at3 (List.take ((↑(wordsOf i).length : Int).toNat - 1) (List.drop (1 : Nat) (wordsOf i))) (0 : Int), ()) ∧ (decide (numV (at3 (List.take ((↑(wordsOf i).length : Int).toNat - 1) (List.drop (1 : Nat)
 (wordsOf i))) (0 : Int)) < 0) = true → ∃ (s : RdS), wordsOf i = wordsOf i ∧ (↑k : Int) = (↑s.k : Int) ∧ IntKind.i64.wrap ((↑b : Int) + 1) = (↑s.b : Int) ∧ ((1 : Nat) ≤ s.k ∧ (↑s.k : Int) ≤ i.op ∧ s.b ≤ 2 ∧ ((↑s.k : Int)
 = i.op → (↑s.b : Int) ≤ bOf i)) ∧ ((23 : Nat) - s.k) * 10 + ((2 : Nat) - s.b) * 2 + 1 < ((23 : Nat) - k) * 10 + ((2 : Nat) - b) * 2 ∧ True) ∧ (decide (numV (at3 (List.take ((↑(wordsOf i).length : Int).toNat - 1)
 (List.drop (1 : Nat) (wordsOf i))) (0 : Int)) < 0) = false → (decide (numV (at3 (List.take ((↑(wordsOf i).length : Int).toNat - 1) (List.drop (1 : Nat) (wordsOf i))) (0 : Int)) > 9) = true → ∃ (s : RdS), wordsOf i =
 wordsOf i ∧ (↑k : Int) = (↑s.k : Int) ∧ IntKind.i64.wrap ((↑b : Int) + 1) = (↑s.b : Int) ∧ ((1 : Nat) ≤ s.k ∧ (↑s.k : Int) ≤ i.op ∧ s.b ≤ 2 ∧ ((↑s.k : Int) = i.op → (↑s.b : Int) ≤ bOf i)) ∧ ((23 : Nat) - s.k) * 10 + ((2
 : Nat) - s.b) * 2 + 1 < ((23 : Nat) - k) * 10 + ((2 : Nat) - b) * 2 ∧ True) ∧ (decide (numV (at3 (List.take ((↑(wordsOf i).length : Int).toNat - 1) (List.drop (1 : Nat) (wordsOf i))) (0 : Int)) > 9) = false → ((0 : Int)
 ≤ 1 ∧ (1 : Int) < (↑(List.take ((↑(wordsOf i).length : Int).toNat - 1) (List.drop (1 : Nat) (wordsOf i))).length : Int)) ∧ nmD.pre (at3 (List.take ((↑(wordsOf i).length : Int).toNat - 1) (List.drop (1 : Nat) (wordsOf
 i))) (1 : Int), ()) ∧ mayD.pre (Ins.mk (↑k : Int) (numV (at3 (List.take ((↑(wordsOf i).length : Int).toNat - 1) (List.drop (1 : Nat) (wordsOf i))) (0 : Int))) (0 : Int) (0 : Int) (numV (at3 (List.take ((↑(wordsOf
 i).length : Int).toNat - 1) (List.drop (1 : Nat) (wordsOf i))) (1 : Int))), ()) ∧ (mayB (Ins.mk (↑k : Int) (numV (at3 (List.take ((↑(wordsOf i).length : Int).toNat - 1) (List.drop (1 : Nat) (wordsOf i))) (0 : Int))) (0 :
 Int) (0 : Int) (numV (at3 (List.take ((↑(wordsOf i).length : Int).toNat - 1) (List.drop (1 : Nat) (wordsOf i))) (1 : Int)))) = true → (↑k : Int) = i.op ∧ numV (at3 (List.take ((↑(wordsOf i).length : Int).toNat - 1)
 (List.drop (1 : Nat) (wordsOf i))) (0 : Int)) = i.a ∧ (0 : Int) = i.b ∧ (0 : Int) = i.c ∧ numV (at3 (List.take ((↑(wordsOf i).length : Int).toNat - 1) (List.drop (1 : Nat) (wordsOf i))) (1 : Int)) = i.n ∧ constA
 Value.nilIface = AVal.nili ∧ True) ∧ (mayB (Ins.mk (↑k : Int) (numV (at3 (List.take ((↑(wordsOf i).length : Int).toNat - 1) (List.drop (1 : Nat) (wordsOf i))) (0 : Int))) (0 : Int) (0 : Int) (numV (at3 (List.take
 ((↑(wordsOf i).length : Int).toNat - 1) (List.drop (1 : Nat) (wordsOf i))) (1 : Int)))) = false → ∃ (s : RdS), wordsOf i = wordsOf i ∧ (↑k : Int) = (↑s.k : Int) ∧ IntKind.i64.wrap ((↑b : Int) + 1) = (↑s.b : Int) ∧ ((1 :
 Nat) ≤ s.k ∧ (↑s.k : Int) ≤ i.op ∧ s.b ≤ 2 ∧ ((↑s.k : Int) = i.op → (↑s.b : Int) ≤ bOf i)) ∧ ((23 : Nat) - s.k) * 10 + ((2 : Nat) - s.b) * 2 + 1 < ((23 : Nat) - k) * 10 + ((2 : Nat) - b) * 2 ∧ True))))) := by kernel_rfl
theorem rd_10b (Z : Xs) (i : Ins) (k b : Nat) : Go.Sy.Tree.holds (cutVC (F Z) (lookC l32) 600 Tryd.f32 b32 (rdF i) 10 (rdC10 i [97, 98, 99]) ⟨k, b⟩) = ( (((↑k : Int) == 13) = true → ((0 : Int) ≤ 1 ∧ (1 : Int) ≤ (↑(wordsOf
 i).length : Int) ∧ (↑(wordsOf i).length : Int) ≤ (↑(wordsOf i).length : Int)) ∧ ((0 : Int) ≤ 0 ∧ (0 : Int) < (↑(List.take ((↑(wordsOf i).length : Int).toNat - 1) (List.drop (1 : Nat) (wordsOf i))).length : Int)) ∧
 nmD.pre (at3 (List.take ((↑(wordsOf i).length : Int).toNat - 1) (List.drop (1 : Nat) (wordsOf i))) (0 : Int), ()) ∧ (decide (numV (at3 (List.take ((↑(wordsOf i).length : Int).toNat - 1) (List.drop (1 : Nat) (wordsOf i)))
 (0 : Int)) < 0) = true → ∃ (s : RdS), wordsOf i = wordsOf i ∧ (↑k : Int) = (↑s.k : Int) ∧ IntKind.i64.wrap ((↑b : Int) + 1) = (↑s.b : Int) ∧ ((1 : Nat) ≤ s.k ∧ (↑s.k : Int) ≤ i.op ∧ s.b ≤ 2 ∧ ((↑s.k : Int) = i.op → (↑s.b
 : Int) ≤ bOf i)) ∧ ((23 : Nat) - s.k) * 10 + ((2 : Nat) - s.b) * 2 + 1 < ((23 : Nat) - k) * 10 + ((2 : Nat) - b) * 2 ∧ True) ∧ (decide (numV (at3 (List.take ((↑(wordsOf i).length : Int).toNat - 1) (List.drop (1 : Nat)
 (wordsOf i))) (0 : Int)) < 0) = false → (decide (numV (at3 (List.take ((↑(wordsOf i).length : Int).toNat - 1) (List.drop (1 : Nat) (wordsOf i))) (0 : Int)) > 9) = true → ∃ (s : RdS), wordsOf i = wordsOf i ∧ (↑k : Int) =
 (↑s.k : Int) ∧ IntKind.i64.wrap ((↑b : Int) + 1) = (↑s.b : Int) ∧ ((1 : Nat) ≤ s.k ∧ (↑s.k : Int) ≤ i.op ∧ s.b ≤ 2 ∧ ((↑s.k : Int) = i.op → (↑s.b : Int) ≤ bOf i)) ∧ ((23 : Nat) - s.k) * 10 + ((2 : Nat) - s.b) * 2 + 1 <
 ((23 : Nat) - k) * 10 + ((2 : Nat) - b) * 2 ∧ True) ∧ (decide (numV (at3 (List.take ((↑(wordsOf i).length : Int).toNat - 1) (List.drop (1 : Nat) (wordsOf i))) (0 : Int)) > 9) = false → ((0 : Int) ≤ 1 ∧ (1 : Int) <
 (↑(List.take ((↑(wordsOf i).length : Int).toNat - 1) (List.drop (1 : Nat) (wordsOf i))).length : Int)) ∧ nmD.pre (at3 (List.take ((↑(wordsOf i).length : Int).toNat - 1) (List.drop (1 : Nat) (wordsOf i))) (1 : Int), ()) ∧
 (decide (numV (at3 (List.take ((↑(wordsOf i).length : Int).toNat - 1) (List.drop (1 : Nat) (wordsOf i))) (1 : Int)) < 0) = true → ∃ (s : RdS), wordsOf i = wordsOf i ∧ (↑k : Int) = (↑s.k : Int) ∧ IntKind.i64.wrap ((↑b :
 Int) + 1) = (↑s.b : Int) ∧ ((1 : Nat) ≤ s.k ∧ (↑s.k : Int) ≤ i.op ∧ s.b ≤ 2 ∧ ((↑s.k : Int) = i.op → (↑s.b : Int) ≤ bOf i)) ∧ ((23 : Nat) - s.k) * 10 + ((2 : Nat) - s.b) * 2 + 1 < ((23 : Nat) - k) * 10 + ((2 : Nat) - b)
 * 2 ∧ True) ∧ (decide (numV (at3 (List.take ((↑(wordsOf i).length : Int).toNat - 1) (List.drop (1 : Nat) (wordsOf i))) (1 : Int)) < 0) = false → (decide (numV (at3 (List.take ((↑(wordsOf i).length : Int).toNat - 1)
 (List.drop (1 : Nat) (wordsOf i))) (1 : Int)) > 9) = true → ∃ (s : RdS), wordsOf i = wordsOf i ∧ (↑k : Int) = (↑s.k : Int) ∧ IntKind.i64.wrap ((↑b : Int) + 1) = (↑s.b : Int) ∧ ((1 : Nat) ≤ s.k ∧ (↑s.k : Int) ≤ i.op ∧ s.b
 ≤ 2 ∧ ((↑s.k : Int) = i.op → (↑s.b : Int) ≤ bOf i)) ∧ ((23 : Nat) - s.k) * 10 + ((2 : Nat) - s.b) * 2 + 1 < ((23 : Nat) - k) * 10 + ((2 : Nat) - b) * 2 ∧ True) ∧ (decide (numV (at3 (List.take ((↑(wordsOf i).length :
 Int).toNat - 1) (List.drop (1 : Nat) (wordsOf i))) (1 : Int)) > 9) = false → ((0 : Int) ≤ 2 ∧ (2 : Int) < (↑(List.take ((↑(wordsOf i).length : Int).toNat - 1) (List.drop (1 : Nat) (wordsOf i))).length : Int)) ∧ nmD.pre
 (at3 (List.take ((↑(wordsOf i).length : Int).toNat - 1) (List.drop (1 : Nat) (wordsOf i))) (2 : Int), ()) ∧ (decide (numV (at3 (List.take ((↑(wordsOf i).length : Int).toNat - 1) (List.drop (1 : Nat) (wordsOf i))) (2 :
 Int)) < 0) = true → ∃ (s : RdS), wordsOf i = wordsOf i ∧ (↑k : Int) = (↑s.k : Int) ∧ IntKind.i64.wrap ((↑b : Int) + 1) = (↑s.b : Int) ∧ ((1 : Nat) ≤ s.k ∧ (↑s.k : Int) ≤ i.op ∧ s.b ≤ 2 ∧ ((↑s.k : Int) = i.op → (↑s.b :
 Int) ≤ bOf i)) ∧ ((23 : Nat) - s.k) * 10 + ((2 : Nat) - s.b) * 2 + 1 < ((23 : Nat) - k) * 10 + ((2 : Nat) - b) * 2 ∧ True) ∧ (decide (numV (at3 (List.take ((↑(wordsOf i).length : Int).toNat - 1) (List.drop (1 : Nat)
 (wordsOf i))) (2 : Int)) < 0) = false → (decide (numV (at3 (List.take ((↑(wordsOf i).length : Int).toNat - 1) (List.drop (1 : Nat) (wordsOf i))) (2 : Int)) > 9) = true → ∃ (s : RdS), wordsOf i = wordsOf i ∧ (↑k : Int) =
 (↑s.k : Int) ∧ IntKind.i64.wrap ((↑b : Int) + 1) = (↑s.b : Int) ∧ ((1 : Nat) ≤ s.k ∧ (↑s.k : Int) ≤ i.op ∧ s.b ≤ 2 ∧ ((↑s.k : Int) = i.op → (↑s.b : Int) ≤ bOf i)) ∧ ((23 : Nat) - s.k) * 10 + ((2 : Nat) - s.b) * 2 + 1 <
 ((23 : Nat) - k) * 10 + ((2 : Nat) - b) * 2 ∧ True) ∧ (decide (numV (at3 (List.take ((↑(wordsOf i).length : Int).toNat - 1) (List.drop (1 : Nat) (wordsOf i))) (2 : Int)) > 9) = false → mayD.pre (Ins.mk (↑k : Int) (numV
 (at3 (List.take ((↑(wordsOf i).length : Int).toNat - 1) (List.drop (1 : Nat) (wordsOf i))) (0 : Int))) (numV (at3 (List.take ((↑(wordsOf i).length : Int).toNat - 1) (List.drop (1 : Nat) (wordsOf i))) (1 : Int))) (numV
 (at3 (List.take ((↑(wordsOf i).length : Int).toNat - 1) (List.drop (1 : Nat) (wordsOf i))) (2 : Int))) (0 : Int), ()) ∧ (mayB (Ins.mk (↑k : Int) (numV (at3 (List.take ((↑(wordsOf i).length : Int).toNat - 1) (List.drop (1
 : Nat) (wordsOf i))) (0 : Int))) (numV (at3 (List.take ((↑(wordsOf i).length : Int).toNat - 1) (List.drop (1 : Nat) (wordsOf i))) (1 : Int))) (numV (at3 (List.take ((↑(wordsOf i).length : Int).toNat - 1) (List.drop (1 :
 Nat) (wordsOf i))) (2 : Int))) (0 : Int)) = true → (↑k : Int) = i.op ∧ numV (at3 (List.take ((↑(wordsOf i).length : Int).toNat - 1) (List.drop (1 : Nat) (wordsOf i))) (0 : Int)) = i.a ∧ numV (at3 (List.take ((↑(wordsOf
 i).length : Int).toNat - 1) (List.drop (1 : Nat) (wordsOf i))) (1 : Int)) = i.b ∧ numV (at3 (List.take ((↑(wordsOf i).length : Int).toNat - 1) (List.drop (1 : Nat) (wordsOf i))) (2 : Int)) = i.c ∧ (0 : Int) = i.n ∧
 constA Value.nilIface = AVal.nili ∧ True) ∧ (mayB (Ins.mk (↑k : Int) (numV (at3 (List.take ((↑(wordsOf i).length : Int).toNat - 1) (List.drop (1 : Nat) (wordsOf i))) (0 : Int))) (numV (at3 (List.take ((↑(wordsOf
 i).length : Int).toNat - 1) (List.drop (1 : Nat) (wordsOf i))) (1 : Int))) (numV (at3 (List.take ((↑(wordsOf i).length : Int).toNat - 1) (List.drop (1 : Nat) (wordsOf i))) (2 : Int))) (0 : Int)) = false → ∃ (s : RdS),
 wordsOf i = wordsOf i ∧ (↑k : Int) = (↑s.k : Int) ∧ IntKind.i64.wrap ((↑b : Int) + 1) = (↑s.b : Int) ∧ ((1 : Nat) ≤ s.k ∧ (↑s.k : Int) ≤ i.op ∧ s.b ≤ 2 ∧ ((↑s.k : Int) = i.op → (↑s.b : Int) ≤ bOf i)) ∧ ((23 : Nat) - s.k)
 * 10 + ((2 : Nat) - s.b) * 2 + 1 < ((23 : Nat) - k) * 10 + ((2 : Nat) - b) * 2 ∧ True)))))))) ∧ (((↑k : Int) == 13) = false → ((0 : Int) ≤ 1 ∧ (1 : Int) ≤ (↑(wordsOf i).length : Int) ∧ (↑(wordsOf i).length : Int) ≤
 (↑(wordsOf i).length : Int)) ∧ ((0 : Int) ≤ 0 ∧ (0 : Int) < (↑(List.take ((↑(wordsOf i).length : Int).toNat - 1) (List.drop (1 : Nat) (wordsOf i))).length : Int)) ∧ nmD.pre (at3 (List.take ((↑(wordsOf i).length :
 Int).toNat - 1) (List.drop (1 : Nat) (wordsOf i))) (0 : Int), ()) ∧ (decide (numV (at3 (List.take ((↑(wordsOf i).length : Int).toNat - 1) (List.drop (1 : Nat) (wordsOf i))) (0 : Int)) < 0) = true → ∃ (s : RdS), wordsOf i
 = wordsOf i ∧ (↑k : Int) = (↑s.k : Int) ∧ IntKind.i64.wrap ((↑b : Int) + 1) = (↑s.b : Int) ∧ ((1 : Nat) ≤ s.k ∧ (↑s.k : Int) ≤ i.op ∧ s.b ≤ 2 ∧ ((↑s.k : Int) = i.op → (↑s.b : Int) ≤ bOf i)) ∧ ((23 : Nat) - s.k) * 10 +
 ((2 : Nat) - s.b) * 2 + 1 < ((23 : Nat) - k) * 10 + ((2 : Nat) - b) * 2 ∧ True) ∧ (decide (numV (at3 (List.take ((↑(wordsOf i).length : Int).toNat - 1) (List.drop (1 : Nat) (wordsOf i))) (0 : Int)) < 0) = false → (decide
 (numV (at3 (List.take ((↑(wordsOf i).length : Int).toNat - 1) (List.drop (1 : Nat) (wordsOf i))) (0 : Int)) > 9) = true → ∃ (s : RdS), wordsOf i = wordsOf i ∧ (↑k : Int) = (↑s.k : Int) ∧ IntKind.i64.wrap ((↑b : Int) + 1)
 = (↑s.b : Int) ∧ ((1 : Nat) ≤ s.k ∧ (↑s.k : Int) ≤ i.op ∧ s.b ≤ 2 ∧ ((↑s.k : Int) = i.op → (↑s.b : Int) ≤ bOf i)) ∧ ((23 : Nat) - s.k) * 10 + ((2 : Nat) - s.b) * 2 + 1 < ((23 : Nat) - k) * 10 + ((2 : Nat) - b) * 2 ∧
 True) ∧ (decide (numV (at3 (List.take ((↑(wordsOf i).length : Int).toNat - 1) (List.drop (1 : Nat) (wordsOf i))) (0 : Int)) > 9) = false → ((0 : Int) ≤ 1 ∧ (1 : Int) < (↑(List.take ((↑(wordsOf i).length : Int).toNat - 1)
 (List.drop (1 : Nat) (wordsOf i))).length : Int)) ∧ nmD.pre (at3 (List.take ((↑(wordsOf i).length : Int).toNat - 1) (List.drop (1 : Nat) (wordsOf i))) (1 : Int), ()) ∧ (decide (numV (at3 (List.take ((↑(wordsOf i).length
 : Int).toNat - 1) (List.drop (1 : Nat) (wordsOf i))) (1 : Int)) < 0) = true → ∃ (s : RdS), wordsOf i = wordsOf i ∧ (↑k : Int) = (↑s.k : Int) ∧ IntKind.i64.wrap ((↑b : Int) + 1) = (↑s.b : Int) ∧ ((1 : Nat) ≤ s.k ∧ (↑s.k :
 Int) ≤ i.op ∧ s.b ≤ 2 ∧ ((↑s.k : Int) = i.op → (↑s.b : Int) ≤ bOf i)) ∧ ((23 : Nat) - s.k) * 10 + ((2 : Nat) - s.b) * 2 + 1 < ((23 : Nat) - k) * 10 + ((2 : Nat) - b) * 2 ∧ True) ∧ (decide (numV (at3 (List.take
 ((↑(wordsOf i).length : Int).toNat - 1) (List.drop (1 : Nat) (wordsOf i))) (1 : Int)) < 0) = false → (decide (numV (at3 (List.take ((↑(wordsOf i).length : Int).toNat - 1) (List.drop (1 : Nat) (wordsOf i))) (1 : Int)) >
 9) = true → ∃ (s : RdS), wordsOf i = wordsOf i ∧ (↑k : Int) = (↑s.k : Int) ∧ IntKind.i64.wrap ((↑b : Int) + 1) = (↑s.b : Int) ∧ ((1 : Nat) ≤ s.k ∧ (↑s.k : Int) ≤ i.op ∧ s.b ≤ 2 ∧ ((↑s.k : Int) = i.op → (↑s.b : Int) ≤ bOf
 i)) ∧ ((23 : Nat) - s.k) * 10 + ((2 : Nat) - s.b) * 2 + 1 < ((23 : Nat) - k) * 10 + ((2 : Nat) - b) * 2 ∧ True) ∧ (decide (numV (at3 (List.take ((↑(wordsOf i).length : Int).toNat - 1) (List.drop (1 : Nat) (wordsOf i)))
 (1 : Int)) > 9) = false → ((0 : Int) ≤ 2 ∧ (2 : Int) < (↑(List.take ((↑(wordsOf i).length : Int).toNat - 1) (List.drop (1 : Nat) (wordsOf i))).length : Int)) ∧ nmD.pre (at3 (List.take ((↑(wordsOf i).length : Int).toNat -
 1) (List.drop (1 : Nat) (wordsOf i))) (2 : Int), ()) ∧ (decide (numV (at3 (List.take ((↑(wordsOf i).length : Int).toNat - 1) (List.drop (1 : Nat) (wordsOf i))) (2 : Int)) < 0) = true → ∃ (s : RdS), wordsOf i = wordsOf i
 ∧ (↑k : Int) = (↑s.k : Int) ∧ IntKind.i64.wrap ((↑b : Int) + 1) = (↑s.b : Int) ∧ ((1 : Nat) ≤ s.k ∧ (↑s.k : Int) ≤ i.op ∧ s.b ≤ 2 ∧ ((↑s.k : Int) = i.op → (↑s.b : Int) ≤ bOf i)) ∧ ((23 : Nat) - s.k) * 10 + ((2 : Nat) -
 s.b) * 2 + 1 < ((23 : Nat) - k) * 10 + ((2 : Nat) - b) * 2 ∧ True) ∧ (decide (numV (at3 (List.take ((↑(wordsOf i).length : Int).toNat - 1) (List.drop (1 : Nat) (wordsOf i))) (2 : Int)) < 0) = false → (decide (numV (at3
 (List.take ((↑(wordsOf i).length : Int).toNat - 1) (List.drop (1 : Nat) (wordsOf i))) (2 : Int)) > 9) = true → ∃ (s : RdS), wordsOf i = wordsOf i ∧ (↑k : Int) = (↑s.k : Int) ∧ IntKind.i64.wrap ((↑b : Int) + 1) = (↑s.b :
 Int) ∧ ((1 : Nat) ≤ s.k ∧ (↑s.k : Int) ≤ i.op ∧ s.b ≤ 2 ∧ ((↑s.k : Int) = i.op → (↑s.b : Int) ≤ bOf i)) ∧ ((23 : Nat) - s.k) * 10 + ((2 : Nat) - s.b) * 2 + 1 < ((23 : Nat) - k) * 10 + ((2 : Nat) - b) * 2 ∧ True) ∧
 (decide (numV (at3 (List.take ((↑(wordsOf i).length : Int).toNat - 1) (List.drop (1 : Nat) (wordsOf i))) (2 : Int)) > 9) = false → mayD.pre (Ins.mk (↑k : Int) (numV (at3 (List.take ((↑(wordsOf i).length : Int).toNat - 1)
 (List.drop (1 : Nat) (wordsOf i))) (0 : Int))) (numV (at3 (List.take ((↑(wordsOf i).length : Int).toNat - 1) (List.drop (1 : Nat) (wordsOf i))) (1 : Int))) (numV (at3 (List.take ((↑(wordsOf i).length : Int).toNat - 1)
 (List.drop (1 : Nat) (wordsOf i))) (2 : Int))) (0 : Int), ()) ∧ (mayB (Ins.mk (↑k : Int) (numV (at3 (List.take ((↑(wordsOf i).length : Int).toNat - 1) (List.drop (1 : Nat) (wordsOf i))) (0 : Int))) (numV (at3 (List.take
 ((↑(wordsOf i).length : Int).toNat - 1) (List.drop (1 : Nat) (wordsOf i))) (1 : Int))) (numV (at3 (List.take ((↑(wordsOf i).length : Int).toNat - 1) (List.drop (1 : Nat) (wordsOf i))) (2 : Int))) (0 : Int)) = true → (↑k
 : Int) = i.op ∧ numV (at3 (List.take ((↑(wordsOf i).length : Int).toNat - 1) (List.drop (1 : Nat) (wordsOf i))) (0 : Int)) = i.a ∧ numV (at3 (List.take ((↑(wordsOf i).length : Int).toNat - 1) (List.drop (1 : Nat)
 (wordsOf i))) (1 : Int)) = i.b ∧ numV (at3 (List.take ((↑(wordsOf i).length : Int).toNat - 1) (List.drop (1 : Nat) (wordsOf i))) (2 : Int)) = i.c ∧ (0 : Int) = i.n ∧ constA Value.nilIface = AVal.nili ∧ True) ∧ (mayB
 (Ins.mk (↑k : Int) (numV (at3 (List.take ((↑(wordsOf i).length : Int).toNat - 1) (List.drop (1 : Nat) (wordsOf i))) (0 : Int))) (numV (at3 (List.take ((↑(wordsOf i).length : Int).toNat - 1) (List.drop (1 : Nat) (wordsOf
 i))) (1 : Int))) (numV (at3 (List.take ((↑(wordsOf i).length : Int).toNat - 1) (List.drop (1 : Nat) (wordsOf i))) (2 : Int))) (0 : Int)) = false → ∃ (s : RdS), wordsOf i = wordsOf i ∧ (↑k : Int) = (↑s.k : Int) ∧
 IntKind.i64.wrap ((↑b : Int) + 1) = (↑s.b : Int) ∧ ((1 : Nat) ≤ s.k ∧ (↑s.k : Int) ≤ i.op ∧ s.b ≤ 2 ∧ ((↑s.k : Int) = i.op → (↑s.b : Int) ≤ bOf i)) ∧ ((23 : Nat) - s.k) * 10 + ((2 : Nat) - s.b) * 2 + 1 < ((23 : Nat) - k)
 * 10 + ((2 : Nat) - b) * 2 ∧ True))))))))) := by kernel_rfl
theorem rd_10c (Z : Xs) (i : Ins) (k b : Nat) : Go.Sy.Tree.holds (cutVC (F Z) (lookC l32) 600 Tryd.f32 b32 (rdF i) 10 (rdC10 i [97, 98, 110]) ⟨k, b⟩) = ( (((↑k : Int) == 13) = true → ((0 : Int) ≤ 1 ∧ (1 : Int) ≤
 (↑(wordsOf i).length : Int) ∧ (↑(wordsOf i).length : Int) ≤ (↑(wordsOf i).length : Int)) ∧ ((0 : Int) ≤ 0 ∧ (0 : Int) < (↑(List.take ((↑(wordsOf i).length : Int).toNat - 1) (List.drop (1 : Nat) (wordsOf i))).length :
 Int)) ∧ nmD.pre (at3 (List.take ((↑(wordsOf i).length : Int).toNat - 1) (List.drop (1 : Nat) (wordsOf i))) (0 : Int), ()) ∧ (decide (numV (at3 (List.take ((↑(wordsOf i).length : Int).toNat - 1) (List.drop (1 : Nat)
 (wordsOf i))) (0 : Int)) < 0) = true → ∃ (s : RdS), wordsOf i = wordsOf i ∧ (↑k : Int) = (↑s.k : Int) ∧ IntKind.i64.wrap ((↑b : Int) + 1) = (↑s.b : Int) ∧ ((1 : Nat) ≤ s.k ∧ (↑s.k : Int) ≤ i.op ∧ s.b ≤ 2 ∧ ((↑s.k : Int)
 = i.op → (↑s.b : Int) ≤ bOf i)) ∧ ((23 : Nat) - s.k) * 10 + ((2 : Nat) - s.b) * 2 + 1 < ((23 : Nat) - k) * 10 + ((2 : Nat) - b) * 2 ∧ True) ∧ (decide (numV (at3 (List.take ((↑(wordsOf i).length : Int).toNat - 1)
 (List.drop (1 : Nat) (wordsOf i))) (0 : Int)) < 0) = false → (decide (numV (at3 (List.take ((↑(wordsOf i).length : Int).toNat - 1) (List.drop (1 : Nat) (wordsOf i))) (0 : Int)) > 9) = true → ∃ (s : RdS), wordsOf i =
 wordsOf i ∧ (↑k : Int) = (↑s.k : Int) ∧ IntKind.i64.wrap ((↑b : Int) + 1) = (↑s.b : Int) ∧ ((1 : Nat) ≤ s.k ∧ (↑s.k : Int) ≤ i.op ∧ s.b ≤ 2 ∧ ((↑s.k : Int) = i.op → (↑s.b : Int) ≤ bOf i)) ∧ ((23 : Nat) - s.k) * 10 + ((2
 : Nat) - s.b) * 2 + 1 < ((23 : Nat) - k) * 10 + ((2 : Nat) - b) * 2 ∧ True) ∧ (decide (numV (at3 (List.take ((↑(wordsOf i).length : Int).toNat - 1) (List.drop (1 : Nat) (wordsOf i))) (0 : Int)) > 9) = false → ((0 : Int)
 ≤ 1 ∧ (1 : Int) < (↑(List.take ((↑(wordsOf i).length : Int).toNat - 1) (List.drop (1 : Nat) (wordsOf i))).length : Int)) ∧ nmD.pre (at3 (List.take ((↑(wordsOf i).length : Int).toNat - 1) (List.drop (1 : Nat) (wordsOf
 i))) (1 : Int), ()) ∧ (decide (numV (at3 (List.take ((↑(wordsOf i).length : Int).toNat - 1) (List.drop (1 : Nat) (wordsOf i))) (1 : Int)) < 0) = true → ∃ (s : RdS), wordsOf i = wordsOf i ∧ (↑k : Int) = (↑s.k : Int) ∧
 IntKind.i64.wrap ((↑b : Int) + 1) = (↑s.b : Int) ∧ ((1 : Nat) ≤ s.k ∧ (↑s.k : Int) ≤ i.op ∧ s.b ≤ 2 ∧ ((↑s.k : Int) = i.op → (↑s.b : Int) ≤ bOf i)) ∧ ((23 : Nat) - s.k) * 10 + ((2 : Nat) - s.b) * 2 + 1 < ((23 : Nat) - k)
 * 10 + ((2 : Nat) - b) * 2 ∧ True) ∧ (decide (numV (at3 (List.take ((↑(wordsOf i).length : Int).toNat - 1) (List.drop (1 : Nat) (wordsOf i))) (1 : Int)) < 0) = false → (decide (numV (at3 (List.take ((↑(wordsOf i).length
 : Int).toNat - 1) (List.drop (1 : Nat) (wordsOf i))) (1 : Int)) > 9) = true → ∃ (s : RdS), wordsOf i = wordsOf i ∧ (↑k : Int) = (↑s.k : Int) ∧ IntKind.i64.wrap ((↑b : Int) + 1) = (↑s.b : Int) ∧ ((1 : Nat) ≤ s.k ∧ (↑s.k :
 Int) ≤ i.op ∧ s.b ≤ 2 ∧ ((↑s.k : Int) = i.op → (↑s.b : Int) ≤ bOf i)) ∧ ((23 : Nat) - s.k) * 10 + ((2 : Nat) - s.b) * 2 + 1 < ((23 : Nat) - k) * 10 + ((2 : Nat) - b) * 2 ∧ True) ∧ (decide (numV (at3 (List.take
 ((↑(wordsOf i).length : Int).toNat - 1) (List.drop (1 : Nat) (wordsOf i))) (1 : Int)) > 9) = false → ((0 : Int) ≤ 2 ∧ (2 : Int) < (↑(List.take ((↑(wordsOf i).length : Int).toNat - 1) (List.drop (1 : Nat) (wordsOf
 i))).length : Int)) ∧ nmD.pre (at3 (List.take ((↑(wordsOf i).length : Int).toNat - 1) (List.drop (1 : Nat) (wordsOf i))) (2 : Int), ()) ∧ mayD.pre (Ins.mk (↑k : Int) (numV (at3 (List.take ((↑(wordsOf i).length :
 Int).toNat - 1) (List.drop (1 : Nat) (wordsOf i))) (0 : Int))) (numV (at3 (List.take ((↑(wordsOf i).length : Int).toNat - 1) (List.drop (1 : Nat) (wordsOf i))) (1 : Int))) (0 : Int) (numV (at3 (List.take ((↑(wordsOf
 i).length : Int).toNat - 1) (List.drop (1 : Nat) (wordsOf i))) (2 : Int))), ()) ∧ (mayB (Ins.mk (↑k : Int) (numV (at3 (List.take ((↑(wordsOf i).length : Int).toNat - 1) (List.drop (1 : Nat) (wordsOf i))) (0 : Int)))
 (numV (at3 (List.take ((↑(wordsOf i).length : Int).toNat - 1) (List.drop (1 : Nat) (wordsOf i))) (1 : Int))) (0 : Int) (numV (at3 (List.take ((↑(wordsOf i).length : Int).toNat - 1) (List.drop (1 : Nat) (wordsOf i))) (2 :
 Int)))) = true → (↑k : Int) = i.op ∧ numV (at3 (List.take ((↑(wordsOf i).length : Int).toNat - 1) (List.drop (1 : Nat) (wordsOf i))) (0 : Int)) = i.a ∧ numV (at3 (List.take ((↑(wordsOf i).length : Int).toNat - 1)
 (List.drop (1 : Nat) (wordsOf i))) (1 : Int)) = i.b ∧ (0 : Int) = i.c ∧ numV (at3 (List.take ((↑(wordsOf i).length : Int).toNat - 1) (List.drop (1 : Nat) (wordsOf i))) (2 : Int)) = i.n ∧ constA Value.nilIface = AVal.nili
 ∧ True) ∧ (mayB (Ins.mk (↑k : Int) (numV (at3 (List.take ((↑(wordsOf i).length : Int).toNat - 1) (List.drop (1 : Nat) (wordsOf i))) (0 : Int))) (numV (at3 (List.take ((↑(wordsOf i).length : Int).toNat - 1) (List.drop (1
 : Nat) (wordsOf i))) (1 : Int))) (0 : Int) (numV (at3 (List.take ((↑(wordsOf i).length : Int).toNat - 1) (List.drop (1 : Nat) (wordsOf i))) (2 : Int)))) = false → ∃ (s : RdS), wordsOf i = wordsOf i ∧ (↑k : Int) = (↑s.k :
 Int) ∧ IntKind.i64.wrap ((↑b : Int) + 1) = (↑s.b : Int) ∧ ((1 : Nat) ≤ s.k ∧ (↑s.k : Int) ≤ i.op ∧ s.b ≤ 2 ∧ ((↑s.k : Int) = i.op → (↑s.b : Int) ≤ bOf i)) ∧ ((23 : Nat) - s.k) * 10 + ((2 : Nat) - s.b) * 2 + 1 < ((23 :
 Nat) - k) * 10 + ((2 : Nat) - b) * 2 ∧ True)))))) ∧ (((↑k : Int) == 13) = false → ((0 : Int) ≤ 1 ∧ (1 : Int) ≤ (↑(wordsOf i).length : Int) ∧ (↑(wordsOf i).length : Int) ≤ (↑(wordsOf i).length : Int)) ∧ ((0 : Int) ≤ 0 ∧
 (0 : Int) < (↑(List.take ((↑(wordsOf i).length : Int).toNat - 1) (List.drop (1 : Nat) (wordsOf i))).length : Int)) ∧ nmD.pre (at3 (List.take ((↑(wordsOf i).length : Int).toNat - 1) (List.drop (1 : Nat) (wordsOf i))) (0 :
 Int), ()) ∧ (decide (numV (at3 (List.take ((↑(wordsOf i).length : Int).toNat - 1) (List.drop (1 : Nat) (wordsOf i))) (0 : Int)) < 0) = true → ∃ (s : RdS), wordsOf i = wordsOf i ∧ (↑k : Int) = (↑s.k : Int) ∧
 IntKind.i64.wrap ((↑b : Int) + 1) = (↑s.b : Int) ∧ ((1 : Nat) ≤ s.k ∧ (↑s.k : Int) ≤ i.op ∧ s.b ≤ 2 ∧ ((↑s.k : Int) = i.op → (↑s.b : Int) ≤ bOf i)) ∧ ((23 : Nat) - s.k) * 10 + ((2 : Nat) - s.b) * 2 + 1 < ((23 : Nat) - k)
 * 10 + ((2 : Nat) - b) * 2 ∧ True) ∧ (decide (numV (at3 (List.take ((↑(wordsOf i).length : Int).toNat - 1) (List.drop (1 : Nat) (wordsOf i))) (0 : Int)) < 0) = false → (decide (numV (at3 (List.take ((↑(wordsOf i).length
 : Int).toNat - 1) (List.drop (1 : Nat) (wordsOf i))) (0 : Int)) > 9) = true → ∃ (s : RdS), wordsOf i = wordsOf i ∧ (↑k : Int) = (↑s.k : Int) ∧ IntKind.i64.wrap ((↑b : Int) + 1) = (↑s.b : Int) ∧ ((1 : Nat) ≤ s.k ∧ (↑s.k :
 Int) ≤ i.op ∧ s.b ≤ 2 ∧ ((↑s.k : Int) = i.op → (↑s.b : Int) ≤ bOf i)) ∧ ((23 : Nat) - s.k) * 10 + ((2 : Nat) - s.b) * 2 + 1 < ((23 : Nat) - k) * 10 + ((2 : Nat) - b) * 2 ∧ True) ∧ (decide (numV (at3 (List.take
 ((↑(wordsOf i).length : Int).toNat - 1) (List.drop (1 : Nat) (wordsOf i))) (0 : Int)) > 9) = false → ((0 : Int) ≤ 1 ∧ (1 : Int) < (↑(List.take ((↑(wordsOf i).length : Int).toNat - 1) (List.drop (1 : Nat) (wordsOf
 i))).length : Int)) ∧ nmD.pre (at3 (List.take ((↑(wordsOf i).length : Int).toNat - 1) (List.drop (1 : Nat) (wordsOf i))) (1 : Int), ()) ∧ (decide (numV (at3 (List.take ((↑(wordsOf i).length : Int).toNat - 1) (List.drop
 (1 : Nat) (wordsOf i))) (1 : Int)) < 0) = true → ∃ (s : RdS), wordsOf i = wordsOf i ∧ (↑k : Int) = (↑s.k : Int) ∧ IntKind.i64.wrap ((↑b : Int) + 1) = (↑s.b : Int) ∧ ((1 : Nat) ≤ s.k ∧ (↑s.k : Int) ≤ i.op ∧ s.b ≤ 2 ∧
 ((↑s.k : Int) = i.op → (↑s.b : Int) ≤ bOf i)) ∧ ((23 : Nat) - s.k) * 10 + ((2 : Nat) - s.b) * 2 + 1 < ((23 : Nat) - k) * 10 + ((2 : Nat) - b) * 2 ∧ True) ∧ (decide (numV (at3 (List.take ((↑(wordsOf i).length : Int).toNat
 - 1) (List.drop (1 : Nat) (wordsOf i))) (1 : Int)) < 0) = false → (decide (numV (at3 (List.take ((↑(wordsOf i).length : Int).toNat - 1) (List.drop (1 : Nat) (wordsOf i))) (1 : Int)) > 9) = true → ∃ (s : RdS), wordsOf i =
 wordsOf i ∧ (↑k : Int) = (↑s.k : Int) ∧ IntKind.i64.wrap ((↑b : Int) + 1) = (↑s.b : Int) ∧ ((1 : Nat) ≤ s.k ∧ (↑s.k : Int) ≤ i.op ∧ s.b ≤ 2 ∧ ((↑s.k : Int) = i.op → (↑s.b : Int) ≤ bOf i)) ∧ ((23 : Nat) - s.k) * 10 + ((2
 : Nat) - s.b) * 2 + 1 < ((23 : Nat) - k) * 10 + ((2 : Nat) - b) * 2 ∧ True) ∧ (decide (numV (at3 (List.take ((↑(wordsOf i).length : Int).toNat - 1) (List.drop (1 : Nat) (wordsOf i))) (1 : Int)) > 9) = false → ((0 : Int)
 ≤ 2 ∧ (2 : Int) < (↑(List.take ((↑(wordsOf i).length : Int).toNat - 1) (List.drop (1 : Nat) (wordsOf i))).length : Int)) ∧ nmD.pre (at3 (List.take ((↑(wordsOf i).length : Int).toNat - 1) (List.drop (1 : Nat) (wordsOf
 i))) (2 : Int), ()) ∧ mayD.pre (Ins.mk (↑k : Int) (numV (at3 (List.take ((↑(wordsOf i).length : Int).toNat - 1) (List.drop (1 : Nat) (wordsOf i))) (0 : Int))) (numV (at3 (List.take ((↑(wordsOf i).length : Int).toNat - 1)
 (List.drop (1 : Nat) (wordsOf i))) (1 : Int))) (0 : Int) (numV (at3 (List.take ((↑(wordsOf i).length : Int).toNat - 1) (List.drop (1 : Nat) (wordsOf i))) (2 : Int))), ()) ∧ (mayB (Ins.mk (↑k : Int) (numV (at3 (List.take
 ((↑(wordsOf i).length : Int).toNat - 1) (List.drop (1 : Nat) (wordsOf i))) (0 : Int))) (numV (at3 (List.take ((↑(wordsOf i).length : Int).toNat - 1) (List.drop (1 : Nat) (wordsOf i))) (1 : Int))) (0 : Int) (numV (at3
 (List.take ((↑(wordsOf i).length : Int).toNat - 1) (List.drop (1 : Nat) (wordsOf i))) (2 : Int)))) = true → (↑k : Int) = i.op ∧ numV (at3 (List.take ((↑(wordsOf i).length : Int).toNat - 1) (List.drop (1 : Nat) (wordsOf
 i))) (0 : Int)) = i.a ∧ numV (at3 (List.take ((↑(wordsOf i).length : Int).toNat - 1) (List.drop (1 : Nat) (wordsOf i))) (1 : Int)) = i.b ∧ (0 : Int) = i.c ∧ numV (at3 (List.take ((↑(wordsOf i).length : Int).toNat - 1)
 (List.drop (1 : Nat) (wordsOf i))) (2 : Int)) = i.n ∧ constA Value.nilIface = AVal.nili ∧ True) ∧ (mayB (Ins.mk (↑k : Int) (numV (at3 (List.take ((↑(wordsOf i).length : Int).toNat - 1) (List.drop (1 : Nat) (wordsOf i)))
 (0 : Int))) (numV (at3 (List.take ((↑(wordsOf i).length : Int).toNat - 1) (List.drop (1 : Nat) (wordsOf i))) (1 : Int))) (0 : Int) (numV (at3 (List.take ((↑(wordsOf i).length : Int).toNat - 1) (List.drop (1 : Nat)
 (wordsOf i))) (2 : Int)))) = false → ∃ (s : RdS), wordsOf i = wordsOf i ∧ (↑k : Int) = (↑s.k : Int) ∧ IntKind.i64.wrap ((↑b : Int) + 1) = (↑s.b : Int) ∧ ((1 : Nat) ≤ s.k ∧ (↑s.k : Int) ≤ i.op ∧ s.b ≤ 2 ∧ ((↑s.k : Int) =
 i.op → (↑s.b : Int) ≤ bOf i)) ∧ ((23 : Nat) - s.k) * 10 + ((2 : Nat) - s.b) * 2 + 1 < ((23 : Nat) - k) * 10 + ((2 : Nat) - b) * 2 ∧ True))))))) := by kernel_rfl
theorem rd_10d (Z : Xs) (i : Ins) (k b : Nat) : Go.Sy.Tree.holds (cutVC (F Z) (lookC l32) 600 Tryd.f32 b32 (rdF i) 10 (rdC10 i [98, 110]) ⟨k, b⟩) = ( (((↑k : Int) == 13) = true → ((0 : Int) ≤ 1 ∧ (1 : Int) ≤ (↑(wordsOf
 i).length : Int) ∧ (↑(wordsOf i).length : Int) ≤ (↑(wordsOf i).length : Int)) ∧ ((0 : Int) ≤ 0 ∧ (0 : Int) < (↑(List.take ((↑(wordsOf i).length : Int).toNat - 1) (List.drop (1 : Nat) (wordsOf i))).length : Int)) ∧
 nmD.pre (at3 (List.take ((↑(wordsOf i).length : Int).toNat - 1) (List.drop (1 : Nat) (wordsOf i))) (0 : Int), ()) ∧ (decide (numV (at3 (List.take ((↑(wordsOf i).length : Int).toNat - 1) (List.drop (1 : Nat) (wordsOf i)))
 (0 : Int)) < 0) = true → ∃ (s : RdS), wordsOf i = wordsOf i ∧ (↑k : Int) = (↑s.k : Int) ∧ IntKind.i64.wrap ((↑b : Int) + 1) = (↑s.b : Int) ∧ ((1 : Nat) ≤ s.k ∧ (↑s.k : Int) ≤ i.op ∧ s.b ≤ 2 ∧ ((↑s.k : Int) = i.op → (↑s.b
 : Int) ≤ bOf i)) ∧ ((23 : Nat) - s.k) * 10 + ((2 : Nat) - s.b) * 2 + 1 < ((23 : Nat) - k) * 10 + ((2 : Nat) - b) * 2 ∧ True) ∧ (decide (numV (at3 (List.take ((↑(wordsOf i).length : Int).toNat - 1) (List.drop (1 : Nat)
 (wordsOf i))) (0 : Int)) < 0) = false → (decide (numV (at3 (List.take ((↑(wordsOf i).length : Int).toNat - 1) (List.drop (1 : Nat) (wordsOf i))) (0 : Int)) > 9) = true → ∃ (s : RdS), wordsOf i = wordsOf i ∧ (↑k : Int) =
 (↑s.k : Int) ∧ IntKind.i64.wrap ((↑b : Int) + 1) = (↑s.b : Int) ∧ ((1 : Nat) ≤ s.k ∧ (↑s.k : Int) ≤ i.op ∧ s.b ≤ 2 ∧ ((↑s.k : Int) = i.op → (↑s.b : Int) ≤ bOf i)) ∧ ((23 : Nat) - s.k) * 10 + ((2 : Nat) - s.b) * 2 + 1 <
 ((23 : Nat) - k) * 10 + ((2 : Nat) - b) * 2 ∧ True) ∧ (decide (numV (at3 (List.take ((↑(wordsOf i).length : Int).toNat - 1) (List.drop (1 : Nat) (wordsOf i))) (0 : Int)) > 9) = false → ((0 : Int) ≤ 1 ∧ (1 : Int) <
 (↑(List.take ((↑(wordsOf i).length : Int).toNat - 1) (List.drop (1 : Nat) (wordsOf i))).length : Int)) ∧ nmD.pre (at3 (List.take ((↑(wordsOf i).length : Int).toNat - 1) (List.drop (1 : Nat) (wordsOf i))) (1 : Int), ()) ∧
 mayD.pre (Ins.mk (↑k : Int) (0 : Int) (numV (at3 (List.take ((↑(wordsOf i).length : Int).toNat - 1) (List.drop (1 : Nat) (wordsOf i))) (0 : Int))) (0 : Int) (numV (at3 (List.take ((↑(wordsOf i).length : Int).toNat - 1)
 (List.drop (1 : Nat) (wordsOf i))) (1 : Int))), ()) ∧ (mayB (Ins.mk (↑k : Int) (0 : Int) (numV (at3 (List.take ((↑(wordsOf i).length : Int).toNat - 1) (List.drop (1 : Nat) (wordsOf i))) (0 : Int))) (0 : Int) (numV (at3
 (List.take ((↑(wordsOf i).length : Int).toNat - 1) (List.drop (1 : Nat) (wordsOf i))) (1 : Int)))) = true → (↑k : Int) = i.op ∧ (0 : Int) = i.a ∧ numV (at3 (List.take ((↑(wordsOf i).length : Int).toNat - 1) (List.drop (1
 : Nat) (wordsOf i))) (0 : Int)) = i.b ∧ (0 : Int) = i.c ∧ numV (at3 (List.take ((↑(wordsOf i).length : Int).toNat - 1) (List.drop (1 : Nat) (wordsOf i))) (1 : Int)) = i.n ∧ constA Value.nilIface = AVal.nili ∧ True) ∧
 (mayB (Ins.mk (↑k : Int) (0 : Int) (numV (at3 (List.take ((↑(wordsOf i).length : Int).toNat - 1) (List.drop (1 : Nat) (wordsOf i))) (0 : Int))) (0 : Int) (numV (at3 (List.take ((↑(wordsOf i).length : Int).toNat - 1)
 (List.drop (1 : Nat) (wordsOf i))) (1 : Int)))) = false → ∃ (s : RdS), wordsOf i = wordsOf i ∧ (↑k : Int) = (↑s.k : Int) ∧ IntKind.i64.wrap ((↑b : Int) + 1) = (↑s.b : Int) ∧ ((1 : Nat) ≤ s.k ∧ (↑s.k : Int) ≤ i.op ∧ s.b ≤
 2 ∧ ((↑s.k : Int) = i.op → (↑s.b : Int) ≤ bOf i)) ∧ ((23 : Nat) - s.k) * 10 + ((2 : Nat) - s.b) * 2 + 1 < ((23 : Nat) - k) * 10 + ((2 : Nat) - b) * 2 ∧ True)))) ∧ (((↑k : Int) == 13) = false → ((0 : Int) ≤ 1 ∧ (1 : Int)
 ≤ (↑(wordsOf i).length : Int) ∧ (↑(wordsOf i).length : Int) ≤ (↑(wordsOf i).length : Int)) ∧ ((0 : Int) ≤ 0 ∧ (0 : Int) < (↑(List.take ((↑(wordsOf i).length : Int).toNat - 1) (List.drop (1 : Nat) (wordsOf i))).length :
 Int)) ∧ nmD.pre (at3 (List.take ((↑(wordsOf i).length : Int).toNat - 1) (List.drop (1 : Nat) (wordsOf i))) (0 : Int), ()) ∧ (decide (numV (at3 (List.take ((↑(wordsOf i).length : Int).toNat - 1) (List.drop (1 : Nat)
 (wordsOf i))) (0 : Int)) < 0) = true → ∃ (s : RdS), wordsOf i = wordsOf i ∧ (↑k : Int) = (↑s.k : Int) ∧ IntKind.i64.wrap ((↑b : Int) + 1) = (↑s.b : Int) ∧ ((1 : Nat) ≤ s.k ∧ (↑s.k : Int) ≤ i.op ∧ s.b ≤ 2 ∧ ((↑s.k : Int)
 = i.op → (↑s.b : Int) ≤ bOf i)) ∧ ((23 : Nat) - s.k) * 10 + ((2 : Nat) - s.b) * 2 + 1 < ((23 : Nat) - k) * 10 + ((2 : Nat) - b) * 2 ∧ True) ∧ (decide (numV (at3 (List.take ((↑(wordsOf i).length : Int).toNat - 1)
 (List.drop (1 : Nat) (wordsOf i))) (0 : Int)) < 0) = false → (decide (numV (at3 (List.take ((↑(wordsOf i).length : Int).toNat - 1) (List.drop (1 : Nat) (wordsOf i))) (0 : Int)) > 9) = true → ∃ (s : RdS), wordsOf i =
 wordsOf i ∧ (↑k : Int) = (↑s.k : Int) ∧ IntKind.i64.wrap ((↑b : Int) + 1) = (↑s.b : Int) ∧ ((1 : Nat) ≤ s.k ∧ (↑s.k : Int) ≤ i.op ∧ s.b ≤ 2 ∧ ((↑s.k : Int) = i.op → (↑s.b : Int) ≤ bOf i)) ∧ ((23 : Nat) - s.k) * 10 + ((2
 : Nat) - s.b) * 2 + 1 < ((23 : Nat) - k) * 10 + ((2 : Nat) - b) * 2 ∧ True) ∧ (decide (numV (at3 (List.take ((↑(wordsOf i).length : Int).toNat - 1) (List.drop (1 : Nat) (wordsOf i))) (0 : Int)) > 9) = false → ((0 : Int)
 ≤ 1 ∧ (1 : Int) < (↑(List.take ((↑(wordsOf i).length : Int).toNat - 1) (List.drop (1 : Nat) (wordsOf i))).length : Int)) ∧ nmD.pre (at3 (List.take ((↑(wordsOf i).length : Int).toNat - 1) (List.drop (1 : Nat) (wordsOf
 i))) (1 : Int), ()) ∧ mayD.pre (Ins.mk (↑k : Int) (0 : Int) (numV (at3 (List.take ((↑(wordsOf i).length : Int).toNat - 1) (List.drop (1 : Nat) (wordsOf i))) (0 : Int))) (0 : Int) (numV (at3 (List.take ((↑(wordsOf
 i).length : Int).toNat - 1) (List.drop (1 : Nat) (wordsOf i))) (1 : Int))), ()) ∧ (mayB (Ins.mk (↑k : Int) (0 : Int) (numV (at3 (List.take ((↑(wordsOf i).length : Int).toNat - 1) (List.drop (1 : Nat) (wordsOf i))) (0 :
 Int))) (0 : Int) (numV (at3 (List.take ((↑(wordsOf i).length : Int).toNat - 1) (List.drop (1 : Nat) (wordsOf i))) (1 : Int)))) = true → (↑k : Int) = i.op ∧ (0 : Int) = i.a ∧ numV (at3 (List.take ((↑(wordsOf i).length :
 Int).toNat - 1) (List.drop (1 : Nat) (wordsOf i))) (0 : Int)) = i.b ∧ (0 : Int) = i.c ∧ numV (at3 (List.take ((↑(wordsOf i).length : Int).toNat - 1) (List.drop (1 : Nat) (wordsOf i))) (1 : Int)) = i.n ∧ constA
 Value.nilIface = AVal.nili ∧ True) ∧ (mayB (Ins.mk (↑k : Int) (0 : Int) (numV (at3 (List.take ((↑(wordsOf i).length : Int).toNat - 1) (List.drop (1 : Nat) (wordsOf i))) (0 : Int))) (0 : Int) (numV (at3 (List.take
 ((↑(wordsOf i).length : Int).toNat - 1) (List.drop (1 : Nat) (wordsOf i))) (1 : Int)))) = false → ∃ (s : RdS), wordsOf i = wordsOf i ∧ (↑k : Int) = (↑s.k : Int) ∧ IntKind.i64.wrap ((↑b : Int) + 1) = (↑s.b : Int) ∧ ((1 :
 Nat) ≤ s.k ∧ (↑s.k : Int) ≤ i.op ∧ s.b ≤ 2 ∧ ((↑s.k : Int) = i.op → (↑s.b : Int) ≤ bOf i)) ∧ ((23 : Nat) - s.k) * 10 + ((2 : Nat) - s.b) * 2 + 1 < ((23 : Nat) - k) * 10 + ((2 : Nat) - b) * 2 ∧ True))))) := by kernel_rfl
theorem rd_10e (Z : Xs) (i : Ins) (k b : Nat) : Go.Sy.Tree.holds (cutVC (F Z) (lookC l32) 600 Tryd.f32 b32 (rdF i) 10 (rdC10 i [97]) ⟨k, b⟩) = ( (((↑k : Int) == 13) = true → ((0 : Int) ≤ 1 ∧ (1 : Int) ≤ (↑(wordsOf
 i).length : Int) ∧ (↑(wordsOf i).length : Int) ≤ (↑(wordsOf i).length : Int)) ∧ ((0 : Int) ≤ 0 ∧ (0 : Int) < (↑(List.take ((↑(wordsOf i).length : Int).toNat - 1) (List.drop (1 : Nat) (wordsOf i))).length : Int)) ∧
 nmD.pre (at3 (List.take ((↑(wordsOf i).length : Int).toNat - 1) (List.drop (1 : Nat) (wordsOf i))) (0 : Int), ()) ∧ (decide (numV (at3 (List.take ((↑(wordsOf i).length : Int).toNat - 1) (List.drop (1 : Nat) (wordsOf i)))
 (0 : Int)) < 0) = true → ∃ (s : RdS), wordsOf i = wordsOf i ∧ (↑k : Int) = (↑s.k : Int) ∧ IntKind.i64.wrap ((↑b : Int) + 1) = (↑s.b : Int) ∧ ((1 : Nat) ≤ s.k ∧ (↑s.k : Int) ≤ i.op ∧ s.b ≤ 2 ∧ ((↑s.k : Int) = i.op → (↑s.b
 : Int) ≤ bOf i)) ∧ ((23 : Nat) - s.k) * 10 + ((2 : Nat) - s.b) * 2 + 1 < ((23 : Nat) - k) * 10 + ((2 : Nat) - b) * 2 ∧ True) ∧ (decide (numV (at3 (List.take ((↑(wordsOf i).length : Int).toNat - 1) (List.drop (1 : Nat)
 (wordsOf i))) (0 : Int)) < 0) = false → (decide (numV (at3 (List.take ((↑(wordsOf i).length : Int).toNat - 1) (List.drop (1 : Nat) (wordsOf i))) (0 : Int)) > 9) = true → ∃ (s : RdS), wordsOf i = wordsOf i ∧ (↑k : Int) =
 (↑s.k : Int) ∧ IntKind.i64.wrap ((↑b : Int) + 1) = (↑s.b : Int) ∧ ((1 : Nat) ≤ s.k ∧ (↑s.k : Int) ≤ i.op ∧ s.b ≤ 2 ∧ ((↑s.k : Int) = i.op → (↑s.b : Int) ≤ bOf i)) ∧ ((23 : Nat) - s.k) * 10 + ((2 : Nat) - s.b) * 2 + 1 <
 ((23 : Nat) - k) * 10 + ((2 : Nat) - b) * 2 ∧ True) ∧ (decide (numV (at3 (List.take ((↑(wordsOf i).length : Int).toNat - 1) (List.drop (1 : Nat) (wordsOf i))) (0 : Int)) > 9) = false → mayD.pre (Ins.mk (↑k : Int) (numV
 (at3 (List.take ((↑(wordsOf i).length : Int).toNat - 1) (List.drop (1 : Nat) (wordsOf i))) (0 : Int))) (↑b : Int) (0 : Int) (0 : Int), ()) ∧ (mayB (Ins.mk (↑k : Int) (numV (at3 (List.take ((↑(wordsOf i).length :
 Int).toNat - 1) (List.drop (1 : Nat) (wordsOf i))) (0 : Int))) (↑b : Int) (0 : Int) (0 : Int)) = true → (↑k : Int) = i.op ∧ numV (at3 (List.take ((↑(wordsOf i).length : Int).toNat - 1) (List.drop (1 : Nat) (wordsOf i)))
 (0 : Int)) = i.a ∧ (↑b : Int) = i.b ∧ (0 : Int) = i.c ∧ (0 : Int) = i.n ∧ constA Value.nilIface = AVal.nili ∧ True) ∧ (mayB (Ins.mk (↑k : Int) (numV (at3 (List.take ((↑(wordsOf i).length : Int).toNat - 1) (List.drop (1 :
 Nat) (wordsOf i))) (0 : Int))) (↑b : Int) (0 : Int) (0 : Int)) = false → ∃ (s : RdS), wordsOf i = wordsOf i ∧ (↑k : Int) = (↑s.k : Int) ∧ IntKind.i64.wrap ((↑b : Int) + 1) = (↑s.b : Int) ∧ ((1 : Nat) ≤ s.k ∧ (↑s.k : Int)
 ≤ i.op ∧ s.b ≤ 2 ∧ ((↑s.k : Int) = i.op → (↑s.b : Int) ≤ bOf i)) ∧ ((23 : Nat) - s.k) * 10 + ((2 : Nat) - s.b) * 2 + 1 < ((23 : Nat) - k) * 10 + ((2 : Nat) - b) * 2 ∧ True)))) ∧ (((↑k : Int) == 13) = false → ((0 : Int) ≤
 1 ∧ (1 : Int) ≤ (↑(wordsOf i).length : Int) ∧ (↑(wordsOf i).length : Int) ≤ (↑(wordsOf i).length : Int)) ∧ ((0 : Int) ≤ 0 ∧ (0 : Int) < (↑(List.take ((↑(wordsOf i).length : Int).toNat - 1) (List.drop (1 : Nat) (wordsOf
 i))).length : Int)) ∧ nmD.pre (at3 (List.take ((↑(wordsOf i).length : Int).toNat - 1) (List.drop (1 : Nat) (wordsOf i))) (0 : Int), ()) ∧ (decide (numV (at3 (List.take ((↑(wordsOf i).length : Int).toNat - 1) (List.drop
 (1 : Nat) (wordsOf i))) (0 : Int)) < 0) = true → ∃ (s : RdS), wordsOf i = wordsOf i ∧ (↑k : Int) = (↑s.k : Int) ∧ IntKind.i64.wrap ((↑b : Int) + 1) = (↑s.b : Int) ∧ ((1 : Nat) ≤ s.k ∧ (↑s.k : Int) ≤ i.op ∧ s.b ≤ 2 ∧
 ((↑s.k : Int) = i.op → (↑s.b : Int) ≤ bOf i)) ∧ ((23 : Nat) - s.k) * 10 + ((2 : Nat) - s.b) * 2 + 1 < ((23 : Nat) - k) * 10 + ((2 : Nat) - b) * 2 ∧ True) ∧ (decide (numV (at3 (List.take ((↑(wordsOf i).length : Int).toNat
 - 1) (List.drop (1 : Nat) (wordsOf i))) (0 : Int)) < 0) = false → (decide (numV (at3 (List.take ((↑(wordsOf i).length : Int).toNat - 1) (List.drop (1 : Nat) (wordsOf i))) (0 : Int)) > 9) = true → ∃ (s : RdS), wordsOf i =
 wordsOf i ∧ (↑k : Int) = (↑s.k : Int) ∧ IntKind.i64.wrap ((↑b : Int) + 1) = (↑s.b : Int) ∧ ((1 : Nat) ≤ s.k ∧ (↑s.k : Int) ≤ i.op ∧ s.b ≤ 2 ∧ ((↑s.k : Int) = i.op → (↑s.b : Int) ≤ bOf i)) ∧ ((23 : Nat) - s.k) * 10 + ((2
 : Nat) - s.b) * 2 + 1 < ((23 : Nat) - k) * 10 + ((2 : Nat) - b) * 2 ∧ True) ∧ (decide (numV (at3 (List.take ((↑(wordsOf i).length : Int).toNat - 1) (List.drop (1 : Nat) (wordsOf i))) (0 : Int)) > 9) = false → mayD.pre
 (Ins.mk (↑k : Int) (numV (at3 (List.take ((↑(wordsOf i).length : Int).toNat - 1) (List.drop (1 : Nat) (wordsOf i))) (0 : Int))) (0 : Int) (0 : Int) (0 : Int), ()) ∧ (mayB (Ins.mk (↑k : Int) (numV (at3 (List.take
 ((↑(wordsOf i).length : Int).toNat - 1) (List.drop (1 : Nat) (wordsOf i))) (0 : Int))) (0 : Int) (0 : Int) (0 : Int)) = true → (↑k : Int) = i.op ∧ numV (at3 (List.take ((↑(wordsOf i).length : Int).toNat - 1) (List.drop
 (1 : Nat) (wordsOf i))) (0 : Int)) = i.a ∧ (0 : Int) = i.b ∧ (0 : Int) = i.c ∧ (0 : Int) = i.n ∧ constA Value.nilIface = AVal.nili ∧ True) ∧ (mayB (Ins.mk (↑k : Int) (numV (at3 (List.take ((↑(wordsOf i).length :
 Int).toNat - 1) (List.drop (1 : Nat) (wordsOf i))) (0 : Int))) (0 : Int) (0 : Int) (0 : Int)) = false → ∃ (s : RdS), wordsOf i = wordsOf i ∧ (↑k : Int) = (↑s.k : Int) ∧ IntKind.i64.wrap ((↑b : Int) + 1) = (↑s.b : Int) ∧
 ((1 : Nat) ≤ s.k ∧ (↑s.k : Int) ≤ i.op ∧ s.b ≤ 2 ∧ ((↑s.k : Int) = i.op → (↑s.b : Int) ≤ bOf i)) ∧ ((23 : Nat) - s.k) * 10 + ((2 : Nat) - s.b) * 2 + 1 < ((23 : Nat) - k) * 10 + ((2 : Nat) - b) * 2 ∧ True))))) := by
 kernel_rfl
theorem rd_10f (Z : Xs) (i : Ins) (k b : Nat) : Go.Sy.Tree.holds (cutVC (F Z) (lookC l32) 600 Tryd.f32 b32 (rdF i) 10 (rdC10 i []) ⟨k, b⟩) = ( (((↑k : Int) == 13) = true → ((0 : Int) ≤ 1 ∧ (1 : Int) ≤ (↑(wordsOf i).length
 : Int) ∧ (↑(wordsOf i).length : Int) ≤ (↑(wordsOf i).length : Int)) ∧ mayD.pre (Ins.mk (↑k : Int) (0 : Int) (↑b : Int) (0 : Int) (0 : Int), ()) ∧ (mayB (Ins.mk (↑k : Int) (0 : Int) (↑b : Int) (0 : Int) (0 : Int)) = true
 → (↑k : Int) = i.op ∧ (0 : Int) = i.a ∧ (↑b : Int) = i.b ∧ (0 : Int) = i.c ∧ (0 : Int) = i.n ∧ constA Value.nilIface = AVal.nili ∧ True) ∧ (mayB (Ins.mk (↑k : Int) (0 : Int) (↑b : Int) (0 : Int) (0 : Int)) = false → ∃ (s
 : RdS), wordsOf i = wordsOf i ∧ (↑k : Int) = (↑s.k : Int) ∧ IntKind.i64.wrap ((↑b : Int) + 1) = (↑s.b : Int) ∧ ((1 : Nat) ≤ s.k ∧ (↑s.k : Int) ≤ i.op ∧ s.b ≤ 2 ∧ ((↑s.k : Int) = i.op → (↑s.b : Int) ≤ bOf i)) ∧ ((23 :
 Nat) - s.k) * 10 + ((2 : Nat) - s.b) * 2 + 1 < ((23 : Nat) - k) * 10 + ((2 : Nat) - b) * 2 ∧ True)) ∧ (((↑k : Int) == 13) = false → ((0 : Int) ≤ 1 ∧ (1 : Int) ≤ (↑(wordsOf i).length : Int) ∧ (↑(wordsOf i).length : Int) ≤
 (↑(wordsOf i).length : Int)) ∧ mayD.pre (Ins.mk (↑k : Int) (0 : Int) (0 : Int) (0 : Int) (0 : Int), ()) ∧ (mayB (Ins.mk (↑k : Int) (0 : Int) (0 : Int) (0 : Int) (0 : Int)) = true → (↑k : Int) = i.op ∧ (0 : Int) = i.a ∧
 (0 : Int) = i.b ∧ (0 : Int) = i.c ∧ (0 : Int) = i.n ∧ constA Value.nilIface = AVal.nili ∧ True) ∧ (mayB (Ins.mk (↑k : Int) (0 : Int) (0 : Int) (0 : Int) (0 : Int)) = false → ∃ (s : RdS), wordsOf i = wordsOf i ∧ (↑k :
 Int) = (↑s.k : Int) ∧ IntKind.i64.wrap ((↑b : Int) + 1) = (↑s.b : Int) ∧ ((1 : Nat) ≤ s.k ∧ (↑s.k : Int) ≤ i.op ∧ s.b ≤ 2 ∧ ((↑s.k : Int) = i.op → (↑s.b : Int) ≤ bOf i)) ∧ ((23 : Nat) - s.k) * 10 + ((2 : Nat) - s.b) * 2
 + 1 < ((23 : Nat) - k) * 10 + ((2 : Nat) - b) * 2 ∧ True))) := by kernel_rfl

/-! ### Words are told apart -/
theorem wl1 : at3 wordsL 1 = [115, 101, 116] := rfl
theorem wl2 : at3 wordsL 2 = [97, 100, 100] := rfl
theorem wl3 : at3 wordsL 3 = [115, 117, 98] := rfl
theorem wl4 : at3 wordsL 4 = [109, 117, 108] := rfl
theorem wl5 : at3 wordsL 5 = [120, 111, 114] := rfl
theorem wl6 : at3 wordsL 6 = [108, 101, 115, 115] := rfl
theorem wl7 : at3 wordsL 7 = [115, 97, 109, 101] := rfl
theorem wl8 : at3 wordsL 8 = [108, 111, 97, 100] := rfl
theorem wl9 : at3 wordsL 9 = [115, 116, 111, 114, 101] := rfl
theorem wl10 : at3 wordsL 10 = [116, 97, 107, 101] := rfl
theorem wl11 : at3 wordsL 11 = [103, 105, 118, 101] := rfl
theorem wl12 : at3 wordsL 12 = [108, 111, 103] := rfl
theorem wl13 : at3 wordsL 13 = [101, 110, 116, 101, 114] := rfl
theorem wl14 : at3 wordsL 14 = [108, 101, 97, 118, 101] := rfl
theorem wl15 : at3 wordsL 15 = [119, 97, 105, 116] := rfl
theorem wl16 : at3 wordsL 16 = [115, 105, 103, 110, 97, 108] := rfl
theorem wl17 : at3 wordsL 17 = [99, 97, 115, 116] := rfl
theorem wl18 : at3 wordsL 18 = [105, 102] := rfl
theorem wl19 : at3 wordsL 19 = [101, 108, 115, 101] := rfl
theorem wl20 : at3 wordsL 20 = [101, 110, 100] := rfl
theorem wl21 : at3 wordsL 21 = [108, 111, 111, 112] := rfl
theorem wl22 : at3 wordsL 22 = [98, 97, 99, 107] := rfl
def idxW (w : List UInt8) : Nat := if w = [114, 101, 97, 100] then 13 else wordsL.idxOf w
theorem idx_word {k : Int} (b : Int) (h1 : 1 ≤ k) (h2 : k ≤ 22) : (idxW (wordB k b) : Int) = k := by
  rcases op_cases h1 h2 with rfl | rfl | rfl | rfl | rfl | rfl | rfl | rfl | rfl | rfl | rfl | rfl | rfl | rfl | rfl | rfl | rfl | rfl | rfl | rfl | rfl | rfl
  · rw [wordB, if_neg (by omega), wl1]; rfl
  · rw [wordB, if_neg (by omega), wl2]; rfl
  · rw [wordB, if_neg (by omega), wl3]; rfl
  · rw [wordB, if_neg (by omega), wl4]; rfl
  · rw [wordB, if_neg (by omega), wl5]; rfl
  · rw [wordB, if_neg (by omega), wl6]; rfl
  · rw [wordB, if_neg (by omega), wl7]; rfl
  · rw [wordB, if_neg (by omega), wl8]; rfl
  · rw [wordB, if_neg (by omega), wl9]; rfl
  · rw [wordB, if_neg (by omega), wl10]; rfl
  · rw [wordB, if_neg (by omega), wl11]; rfl
  · rw [wordB, if_neg (by omega), wl12]; rfl
  · unfold wordB
    split
    · rfl
    · rw [wl13]; rfl
  · rw [wordB, if_neg (by omega), wl14]; rfl
  · rw [wordB, if_neg (by omega), wl15]; rfl
  · rw [wordB, if_neg (by omega), wl16]; rfl
  · rw [wordB, if_neg (by omega), wl17]; rfl
  · rw [wordB, if_neg (by omega), wl18]; rfl
  · rw [wordB, if_neg (by omega), wl19]; rfl
  · rw [wordB, if_neg (by omega), wl20]; rfl
  · rw [wordB, if_neg (by omega), wl21]; rfl
  · rw [wordB, if_neg (by omega), wl22]; rfl
theorem word_inj {k op b b' : Int} (h1 : 1 ≤ k) (h2 : k ≤ 22) (h3 : 1 ≤ op) (h4 : op ≤ 22) (h : wordB k b = wordB op b') : k = op ∧ (op = 13 → (b = 1 ↔ b' = 1)) := by
  have e1 := idx_word b h1 h2
  have e2 := idx_word b' h3 h4
  rw [h] at e1
  have e : k = op := by omega
  subst e
  refine ⟨rfl, ?_⟩
  rintro rfl
  have ne : ¬ ([114, 101, 97, 100] : List UInt8) = [101, 110, 116, 101, 114] := by decide
  unfold wordB at h
  rw [wl13] at h
  by_cases g1 : b = 1
  · by_cases g2 : b' = 1
    · exact ⟨fun _ => g2, fun _ => g1⟩
    · rw [if_pos ⟨rfl, g1⟩, if_neg (fun x => g2 x.2)] at h
      exact absurd h ne
  · by_cases g2 : b' = 1
    · rw [if_neg (fun x => g1 x.2), if_pos ⟨rfl, g2⟩] at h
      exact absurd h.symm ne
    · exact ⟨fun x => absurd x g1, fun x => absurd x g2⟩
/-- What stands in no field is nothing. -/
theorem good_fields {i : Ins} (h : mayB i = true) : (1 ≤ i.op ∧ i.op ≤ 22) ∧ (0 ≤ i.a ∧ i.a ≤ 9) ∧ (0 ≤ i.b ∧ i.b ≤ 9) ∧ (0 ≤ i.c ∧ i.c ≤ 9) ∧ (i.op = 13 → i.b ≤ 1) ∧ (97 ∉ fieldsOf i.op → i.a = 0) ∧ (98 ∉ fieldsOf i.op → i.op ≠ 13 → i.b = 0) ∧ (99 ∉ fieldsOf i.op → i.c = 0) ∧ (110 ∉ fieldsOf i.op → i.n = 0) := by
  obtain ⟨op, a, b, c, n⟩ := i
  have hp := may_parts h
  have h1 : 1 ≤ op := hp.1
  have h2 : op ≤ 22 := hp.2.1
  have hm := h
  simp only [mayB, Bool.and_eq_true, fitB, decide_eq_true_eq, Bool.or_eq_true, beq_iff_eq] at hm
  obtain ⟨_, _, ⟨a0, a1⟩, ⟨b0, b1⟩, ⟨c0, c1⟩, hn⟩ := hm
  clear h hp
  rcases op_cases h1 h2 with rfl | rfl | rfl | rfl | rfl | rfl | rfl | rfl | rfl | rfl | rfl | rfl | rfl | rfl | rfl | rfl | rfl | rfl | rfl | rfl | rfl | rfl <;> simp [shA, shB, shC, shN, mostK] at a0 a1 b0 b1 c0 c1 hn <;> simp [fieldsOf] <;> omega
theorem fields_six (op : Int) : fieldsOf op = [97, 110] ∨ fieldsOf op = [97, 98, 99] ∨ fieldsOf op = [97, 98, 110] ∨ fieldsOf op = [98, 110] ∨ fieldsOf op = [97] ∨ fieldsOf op = [] := by
  unfold fieldsOf
  repeat' split
  all_goals simp
theorem ne13 {k : Int} {f : List UInt8} (h : fieldsOf k = f) (hf : f ≠ [97]) : ((k : Int) == 13) = false := by
  by_cases e : k = 13
  · subst e
    exact absurd h.symm hf
  · simpa using e

/-! ### verb -/
theorem vb_e_ok (op b : Int) (h1 : 1 ≤ op) (h2 : op ≤ 22) : Paid (entryX (F Z) (lookC []) 400 Tryd.f20 b20 ⟨[], .tup [.s (wordB op b), .s (fieldsOf op)], []⟩ [.i .i64 op, .i .i64 b]) := by
  refine ⟨?_⟩
  rw [vb_e]
  by_cases hb : b = 1
  · subst hb
    rcases op_cases h1 h2 with rfl | rfl | rfl | rfl | rfl | rfl | rfl | rfl | rfl | rfl | rfl | rfl | rfl | rfl | rfl | rfl | rfl | rfl | rfl | rfl | rfl | rfl <;> simp [wordB, fieldsOf, wl1, wl2, wl3, wl4, wl5, wl6, wl7, wl8, wl9, wl10, wl11, wl12, wl13, wl14, wl15, wl16, wl17, wl18, wl19, wl20, wl21, wl22]
  · rcases op_cases h1 h2 with rfl | rfl | rfl | rfl | rfl | rfl | rfl | rfl | rfl | rfl | rfl | rfl | rfl | rfl | rfl | rfl | rfl | rfl | rfl | rfl | rfl | rfl <;> simp [wordB, fieldsOf, hb, wl1, wl2, wl3, wl4, wl5, wl6, wl7, wl8, wl9, wl10, wl11, wl12, wl13, wl14, wl15, wl16, wl17, wl18, wl19, wl20, wl21, wl22]
theorem vbOk : CtrOk1 (F Z).S 20 (mkCtr vbD) :=
  mkCtr_paid (fn := Tryd.f20) (body := b20) (ctr := lookC []) codOk noExt hookLow noneOk Tryd.func20 rfl rfl rfl vbD 400 (fun _ => []) (show 2 ≤ Tryd.f20.ntmps by decide) (show Tryd.f20.ntmps ≤ 512 by decide) (by kernel_rfl) (fun _ _ => ⟨rfl, rfl⟩)
    (fun (x : Int × Int × Unit) hp => vb_e_ok x.1 x.2.1 hp.1 hp.2) (fun x hp p hm => by cases hm)

/-! ### read -/
theorem rd_e_ok (i : Ins) (hi : Good i) : Paid (entryX (F Z) (lookC l32) 600 Tryd.f32 b32 (rdF i) [.s (lineS i)]) := by
  refine ⟨?_⟩
  rw [rd_e]
  have hl : (lineS i).length ≤ 200 := by have := lineR_len i; rw [lineR, if_pos hi.1] at this; exact this
  obtain ⟨⟨h1, h2⟩, ⟨a0, a1⟩, ⟨b0, b1⟩, _⟩ := good_fields hi.1
  refine ⟨by omega, ⟨1, 0⟩, split_line hi, rfl, rfl, ⟨Nat.le_refl _, h1, by show 0 ≤ 2; omega, fun _ => ?_⟩, trivial⟩
  show (0 : Int) ≤ bOf i
  unfold bOf
  split <;> omega
theorem rd_6_ok (i : Ins) (hi : Good i) (k b : Nat) (h : 1 ≤ k ∧ (k : Int) ≤ i.op ∧ b ≤ 2 ∧ ((k : Int) = i.op → (b : Int) ≤ bOf i)) : Paid (cutVC (F Z) (lookC l32) 600 Tryd.f32 b32 (rdF i) 6 (rdC6 i) ⟨k, b⟩) := by
  refine ⟨?_⟩
  rw [rd_6]
  obtain ⟨hk1, hk2, hb2, hkb⟩ := h
  obtain ⟨⟨h1, h2⟩, ⟨a0, a1⟩, ⟨b0, b1⟩, _, b13, _⟩ := good_fields hi.1
  have hb01 : bOf i = 0 ∨ bOf i = 1 := by unfold bOf; split <;> omega
  have hw0 : at3 (wordsOf i) 0 = wordB i.op i.b := rfl
  have hwl : (wordsOf i).length = (fieldsOf i.op).length + 1 := by simp [wordsOf]
  have hf6 := fields_six i.op
  have hl3 : (fieldsOf i.op).length ≤ 3 := by rcases hf6 with e | e | e | e | e | e <;> rw [e] <;> decide
  rw [hw0, hwl]
  have next : (b : Int) ≤ 1 → ((k : Int) = i.op → (b : Int) < bOf i) → ∃ s : RdS, wordsOf i = wordsOf i ∧ (k : Int) = (s.k : Int) ∧ IntKind.i64.wrap ((b : Int) + 1) = (s.b : Int) ∧ (1 ≤ s.k ∧ (s.k : Int) ≤ i.op ∧ s.b ≤ 2 ∧ ((s.k : Int) = i.op → (s.b : Int) ≤ bOf i)) ∧
      (23 - s.k) * 10 + (2 - s.b) * 2 + 1 < (23 - k) * 10 + (2 - b) * 2 + 1 ∧ True := by
    intro g1 g2
    refine ⟨⟨k, b + 1⟩, rfl, rfl, ?_, ⟨hk1, hk2, by show b + 1 ≤ 2; omega, fun e => ?_⟩, by show (23 - k) * 10 + (2 - (b + 1)) * 2 + 1 < _; omega, trivial⟩
    · rw [wrap64 (by omega) (by omega)]; rfl
    · have := g2 e
      show ((b + 1 : Nat) : Int) ≤ bOf i
      omega
  refine ⟨fun g => ⟨⟨by omega, by omega⟩, ⟨by omega, by omega⟩, fun g1 => next (by simpa using g) fun e => ?_, fun g1 => ?_⟩, fun g => ⟨fun g1 => ?_, fun g1 => ?_⟩⟩
  · have hle := hkb e
    rcases Int.lt_or_eq_of_le hle with hlt | heq
    · exact hlt
    · exfalso
      have hne : ¬ wordB k b = wordB i.op i.b := by simpa using g1
      apply hne
      rw [e, heq]
      unfold bOf wordB
      by_cases h13 : i.op = 13
      · rw [if_pos h13]
      · rw [if_neg (fun x => h13 x.1), if_neg (fun x => h13 x.1)]
  · have heq : wordB k b = wordB i.op i.b := by simpa using g1
    simp only [decide_eq_true_eq] at g
    obtain ⟨e, e13⟩ := word_inj (by omega) (by omega) h1 h2 heq
    have hb : (b : Int) = bOf i := by
      have hle := hkb e
      unfold bOf at hle ⊢
      split
      · rename_i h13
        rw [if_pos h13] at hle
        have h5 := e13 h13
        have h6 := b13 h13
        by_cases hb1 : i.b = 1
        · rw [h5.2 hb1, hb1]
        · omega
      · rename_i h13
        rw [if_neg h13] at hle
        omega
    rw [e]
    have hlen : IntKind.i64.wrap ((((fieldsOf i.op).length + 1 : Nat) : Int) - 1) = ((fieldsOf i.op).length : Int) := by
      rw [wrap64 (by omega) (by omega)]; omega
    rw [hlen]
    refine ⟨fun x => by simp at x, fun _ => ?_⟩
    have fin : ∀ f, fieldsOf i.op = f → ∃ s : RdS, wordsOf i = wordsOf i ∧ i.op = (s.k : Int) ∧ (b : Int) = (s.b : Int) ∧ AVal.str (fieldsOf i.op) = AVal.str f ∧ ((s.k : Int) = i.op ∧ (s.b : Int) = bOf i ∧ fieldsOf i.op = f) ∧
        (23 - s.k) * 10 + (2 - s.b) * 2 < (23 - k) * 10 + (2 - b) * 2 + 1 ∧ True :=
      fun f hf => ⟨⟨k, b⟩, rfl, e.symm, rfl, by rw [hf], ⟨e, hb, hf⟩, by show (23 - k) * 10 + (2 - b) * 2 < _; omega, trivial⟩
    rcases hf6 with hf | hf | hf | hf | hf | hf
    · exact ⟨true, fun _ => fin _ hf, (fun x => nomatch x)⟩
    · exact ⟨false, (fun x => nomatch x), fun _ => ⟨true, fun _ => fin _ hf, (fun x => nomatch x)⟩⟩
    · exact ⟨false, (fun x => nomatch x), fun _ => ⟨false, (fun x => nomatch x), fun _ => ⟨true, fun _ => fin _ hf, (fun x => nomatch x)⟩⟩⟩
    · exact ⟨false, (fun x => nomatch x), fun _ => ⟨false, (fun x => nomatch x), fun _ => ⟨false, (fun x => nomatch x), fun _ => ⟨true, fun _ => fin _ hf, (fun x => nomatch x)⟩⟩⟩⟩
    · exact ⟨false, (fun x => nomatch x), fun _ => ⟨false, (fun x => nomatch x), fun _ => ⟨false, (fun x => nomatch x), fun _ => ⟨false, (fun x => nomatch x), fun _ => ⟨true, fun _ => fin _ hf, (fun x => nomatch x)⟩⟩⟩⟩⟩
    · exact ⟨false, (fun x => nomatch x), fun _ => ⟨false, (fun x => nomatch x), fun _ => ⟨false, (fun x => nomatch x), fun _ => ⟨false, (fun x => nomatch x), fun _ => ⟨false, (fun x => nomatch x), fun _ => fin _ hf⟩⟩⟩⟩⟩
  · simp only [decide_eq_false_iff_not] at g
    have hne : (k : Int) ≠ i.op := fun e => by have := hkb e; omega
    refine ⟨⟨k + 1, 0⟩, rfl, ?_, rfl, ⟨by show 1 ≤ k + 1; omega, by show ((k + 1 : Nat) : Int) ≤ i.op; omega, by show 0 ≤ 2; omega, fun _ => by show (0 : Int) ≤ bOf i; omega⟩, by show (23 - (k + 1)) * 10 + (2 - 0) * 2 + 1 < (23 - k) * 10 + (2 - b) * 2 + 1; omega, trivial⟩
    rw [wrap64 (by omega) (by omega)]; rfl
  · exfalso
    simp only [decide_eq_false_iff_not] at g g1
    have hne : (k : Int) ≠ i.op := fun e => by have := hkb e; omega
    rw [wrap64 (by omega) (by omega)] at g1
    omega
theorem rd_10a_ok (i : Ins) (hi : Good i) (k b : Nat) (h : (k : Int) = i.op ∧ (b : Int) = bOf i ∧ fieldsOf i.op = [97, 110]) : Paid (cutVC (F Z) (lookC l32) 600 Tryd.f32 b32 (rdF i) 10 (rdC10 i [97, 110]) ⟨k, b⟩) := by
  refine ⟨?_⟩
  rw [rd_10a]
  obtain ⟨hk, hb, hf⟩ := h
  obtain ⟨⟨h1, h2⟩, ⟨a0, a1⟩, ⟨b0, b1⟩, ⟨c0, c1⟩, b13, za, zb, zc, zn⟩ := good_fields hi.1
  obtain ⟨_, _, oa, ob, oc⟩ := may_parts hi.1
  have on := hi.2
  have hm := hi.1
  have hw : wordsOf i = [wordB i.op i.b, decS i.a, decS i.n] := by rw [wordsOf, hf]; rfl
  have et : List.take (([wordB i.op i.b, decS i.a, decS i.n].length : Int).toNat - 1) (List.drop 1 [wordB i.op i.b, decS i.a, decS i.n]) = [decS i.a, decS i.n] := rfl
  rw [hf] at za zb zc zn
  have zc := zc (by decide)
  rw [hw, et]
  simp only [show at3 [decS i.a, decS i.n] 0 = decS i.a from rfl, show at3 [decS i.a, decS i.n] 1 = decS i.n from rfl]
  rw [numV_dec oa, numV_dec on]
  have n13 : ((k : Int) == 13) = false := by rw [hk]; exact ne13 hf (by decide)
  have hbb : (0 : Int) = i.b := by
    have e : ¬ (k : Int) = 13 := ne_of_beq_false n13
    rw [zb (by decide) (by omega)]
  refine ⟨fun e => absurd (n13.symm.trans e) (by decide), fun e => ?_⟩
  · have hI : Ins.mk (k : Int) (i.a) (0) (0) (i.n) = i := by
      obtain ⟨op, a, b, c, n⟩ := i
      simp only at hk zc hbb ⊢
      rw [Ins.mk.injEq]
      exact ⟨hk, rfl, hbb, zc.symm, rfl⟩
    refine ⟨⟨by decide, by simp, Int.le_refl _⟩, ⟨by decide, by simp⟩, ⟨i.a, oa, rfl⟩, fun g => ?_, fun _ => ⟨fun g => ?_, fun _ => ⟨⟨by decide, by simp⟩, ⟨i.n, on, rfl⟩, trivial, fun _ => ⟨hk, rfl, hbb, zc.symm, rfl, rfl, trivial⟩, fun g => ?_⟩⟩⟩
    · simp only [decide_eq_true_eq] at g; omega
    · simp only [decide_eq_true_eq] at g; omega
    · rw [hI, hm] at g
      exact nomatch g
theorem rd_10b_ok (i : Ins) (hi : Good i) (k b : Nat) (h : (k : Int) = i.op ∧ (b : Int) = bOf i ∧ fieldsOf i.op = [97, 98, 99]) : Paid (cutVC (F Z) (lookC l32) 600 Tryd.f32 b32 (rdF i) 10 (rdC10 i [97, 98, 99]) ⟨k, b⟩) := by
  refine ⟨?_⟩
  rw [rd_10b]
  obtain ⟨hk, hb, hf⟩ := h
  obtain ⟨⟨h1, h2⟩, ⟨a0, a1⟩, ⟨b0, b1⟩, ⟨c0, c1⟩, b13, za, zb, zc, zn⟩ := good_fields hi.1
  obtain ⟨_, _, oa, ob, oc⟩ := may_parts hi.1
  have on := hi.2
  have hm := hi.1
  have hw : wordsOf i = [wordB i.op i.b, decS i.a, decS i.b, decS i.c] := by rw [wordsOf, hf]; rfl
  have et : List.take (([wordB i.op i.b, decS i.a, decS i.b, decS i.c].length : Int).toNat - 1) (List.drop 1 [wordB i.op i.b, decS i.a, decS i.b, decS i.c]) = [decS i.a, decS i.b, decS i.c] := rfl
  rw [hf] at za zb zc zn
  have zn := zn (by decide)
  rw [hw, et]
  simp only [show at3 [decS i.a, decS i.b, decS i.c] 0 = decS i.a from rfl, show at3 [decS i.a, decS i.b, decS i.c] 1 = decS i.b from rfl, show at3 [decS i.a, decS i.b, decS i.c] 2 = decS i.c from rfl]
  rw [numV_dec oa, numV_dec ob, numV_dec oc]
  have n13 : ((k : Int) == 13) = false := by rw [hk]; exact ne13 hf (by decide)
  refine ⟨fun e => absurd (n13.symm.trans e) (by decide), fun e => ?_⟩
  · have hI : Ins.mk (k : Int) (i.a) (i.b) (i.c) (0) = i := by
      obtain ⟨op, a, b, c, n⟩ := i
      simp only at hk zn ⊢
      rw [Ins.mk.injEq]
      exact ⟨hk, rfl, rfl, rfl, zn.symm⟩
    refine ⟨⟨by decide, by simp, Int.le_refl _⟩, ⟨by decide, by simp⟩, ⟨i.a, oa, rfl⟩, fun g => ?_, fun _ => ⟨fun g => ?_, fun _ => ⟨⟨by decide, by simp⟩, ⟨i.b, ob, rfl⟩, fun g => ?_, fun _ => ⟨fun g => ?_, fun _ => ⟨⟨by decide, by simp⟩, ⟨i.c, oc, rfl⟩, fun g => ?_, fun _ => ⟨fun g => ?_, fun _ => ⟨trivial, fun _ => ⟨hk, rfl, rfl, rfl, zn.symm, rfl, trivial⟩, fun g => ?_⟩⟩⟩⟩⟩⟩⟩
    · simp only [decide_eq_true_eq] at g; omega
    · simp only [decide_eq_true_eq] at g; omega
    · simp only [decide_eq_true_eq] at g; omega
    · simp only [decide_eq_true_eq] at g; omega
    · simp only [decide_eq_true_eq] at g; omega
    · simp only [decide_eq_true_eq] at g; omega
    · rw [hI, hm] at g
      exact nomatch g
theorem rd_10c_ok (i : Ins) (hi : Good i) (k b : Nat) (h : (k : Int) = i.op ∧ (b : Int) = bOf i ∧ fieldsOf i.op = [97, 98, 110]) : Paid (cutVC (F Z) (lookC l32) 600 Tryd.f32 b32 (rdF i) 10 (rdC10 i [97, 98, 110]) ⟨k, b⟩) := by
  refine ⟨?_⟩
  rw [rd_10c]
  obtain ⟨hk, hb, hf⟩ := h
  obtain ⟨⟨h1, h2⟩, ⟨a0, a1⟩, ⟨b0, b1⟩, ⟨c0, c1⟩, b13, za, zb, zc, zn⟩ := good_fields hi.1
  obtain ⟨_, _, oa, ob, oc⟩ := may_parts hi.1
  have on := hi.2
  have hm := hi.1
  have hw : wordsOf i = [wordB i.op i.b, decS i.a, decS i.b, decS i.n] := by rw [wordsOf, hf]; rfl
  have et : List.take (([wordB i.op i.b, decS i.a, decS i.b, decS i.n].length : Int).toNat - 1) (List.drop 1 [wordB i.op i.b, decS i.a, decS i.b, decS i.n]) = [decS i.a, decS i.b, decS i.n] := rfl
  rw [hf] at za zb zc zn
  have zc := zc (by decide)
  rw [hw, et]
  simp only [show at3 [decS i.a, decS i.b, decS i.n] 0 = decS i.a from rfl, show at3 [decS i.a, decS i.b, decS i.n] 1 = decS i.b from rfl, show at3 [decS i.a, decS i.b, decS i.n] 2 = decS i.n from rfl]
  rw [numV_dec oa, numV_dec ob, numV_dec on]
  have n13 : ((k : Int) == 13) = false := by rw [hk]; exact ne13 hf (by decide)
  refine ⟨fun e => absurd (n13.symm.trans e) (by decide), fun e => ?_⟩
  · have hI : Ins.mk (k : Int) (i.a) (i.b) (0) (i.n) = i := by
      obtain ⟨op, a, b, c, n⟩ := i
      simp only at hk zc ⊢
      rw [Ins.mk.injEq]
      exact ⟨hk, rfl, rfl, zc.symm, rfl⟩
    refine ⟨⟨by decide, by simp, Int.le_refl _⟩, ⟨by decide, by simp⟩, ⟨i.a, oa, rfl⟩, fun g => ?_, fun _ => ⟨fun g => ?_, fun _ => ⟨⟨by decide, by simp⟩, ⟨i.b, ob, rfl⟩, fun g => ?_, fun _ => ⟨fun g => ?_, fun _ => ⟨⟨by decide, by simp⟩, ⟨i.n, on, rfl⟩, trivial, fun _ => ⟨hk, rfl, rfl, zc.symm, rfl, rfl, trivial⟩, fun g => ?_⟩⟩⟩⟩⟩
    · simp only [decide_eq_true_eq] at g; omega
    · simp only [decide_eq_true_eq] at g; omega
    · simp only [decide_eq_true_eq] at g; omega
    · simp only [decide_eq_true_eq] at g; omega
    · rw [hI, hm] at g
      exact nomatch g
theorem rd_10d_ok (i : Ins) (hi : Good i) (k b : Nat) (h : (k : Int) = i.op ∧ (b : Int) = bOf i ∧ fieldsOf i.op = [98, 110]) : Paid (cutVC (F Z) (lookC l32) 600 Tryd.f32 b32 (rdF i) 10 (rdC10 i [98, 110]) ⟨k, b⟩) := by
  refine ⟨?_⟩
  rw [rd_10d]
  obtain ⟨hk, hb, hf⟩ := h
  obtain ⟨⟨h1, h2⟩, ⟨a0, a1⟩, ⟨b0, b1⟩, ⟨c0, c1⟩, b13, za, zb, zc, zn⟩ := good_fields hi.1
  obtain ⟨_, _, oa, ob, oc⟩ := may_parts hi.1
  have on := hi.2
  have hm := hi.1
  have hw : wordsOf i = [wordB i.op i.b, decS i.b, decS i.n] := by rw [wordsOf, hf]; rfl
  have et : List.take (([wordB i.op i.b, decS i.b, decS i.n].length : Int).toNat - 1) (List.drop 1 [wordB i.op i.b, decS i.b, decS i.n]) = [decS i.b, decS i.n] := rfl
  rw [hf] at za zb zc zn
  have za := za (by decide)
  have zc := zc (by decide)
  rw [hw, et]
  simp only [show at3 [decS i.b, decS i.n] 0 = decS i.b from rfl, show at3 [decS i.b, decS i.n] 1 = decS i.n from rfl]
  rw [numV_dec ob, numV_dec on]
  have n13 : ((k : Int) == 13) = false := by rw [hk]; exact ne13 hf (by decide)
  refine ⟨fun e => absurd (n13.symm.trans e) (by decide), fun e => ?_⟩
  · have hI : Ins.mk (k : Int) (0) (i.b) (0) (i.n) = i := by
      obtain ⟨op, a, b, c, n⟩ := i
      simp only at hk za zc ⊢
      rw [Ins.mk.injEq]
      exact ⟨hk, za.symm, rfl, zc.symm, rfl⟩
    refine ⟨⟨by decide, by simp, Int.le_refl _⟩, ⟨by decide, by simp⟩, ⟨i.b, ob, rfl⟩, fun g => ?_, fun _ => ⟨fun g => ?_, fun _ => ⟨⟨by decide, by simp⟩, ⟨i.n, on, rfl⟩, trivial, fun _ => ⟨hk, za.symm, rfl, zc.symm, rfl, rfl, trivial⟩, fun g => ?_⟩⟩⟩
    · simp only [decide_eq_true_eq] at g; omega
    · simp only [decide_eq_true_eq] at g; omega
    · rw [hI, hm] at g
      exact nomatch g
theorem rd_10e_ok (i : Ins) (hi : Good i) (k b : Nat) (h : (k : Int) = i.op ∧ (b : Int) = bOf i ∧ fieldsOf i.op = [97]) : Paid (cutVC (F Z) (lookC l32) 600 Tryd.f32 b32 (rdF i) 10 (rdC10 i [97]) ⟨k, b⟩) := by
  refine ⟨?_⟩
  rw [rd_10e]
  obtain ⟨hk, hb, hf⟩ := h
  obtain ⟨⟨h1, h2⟩, ⟨a0, a1⟩, ⟨b0, b1⟩, ⟨c0, c1⟩, b13, za, zb, zc, zn⟩ := good_fields hi.1
  obtain ⟨_, _, oa, ob, oc⟩ := may_parts hi.1
  have on := hi.2
  have hm := hi.1
  have hw : wordsOf i = [wordB i.op i.b, decS i.a] := by rw [wordsOf, hf]; rfl
  have et : List.take (([wordB i.op i.b, decS i.a].length : Int).toNat - 1) (List.drop 1 [wordB i.op i.b, decS i.a]) = [decS i.a] := rfl
  rw [hf] at za zb zc zn
  have zc := zc (by decide)
  have zn := zn (by decide)
  rw [hw, et]
  simp only [show at3 [decS i.a] 0 = decS i.a from rfl]
  rw [numV_dec oa]
  refine ⟨fun e => ?_, fun e => ?_⟩
  · have hbb : (b : Int) = i.b := by
      have e : (k : Int) = 13 := eq_of_beq e
      rw [hb, bOf, if_pos (by omega)]
    have hI : Ins.mk (k : Int) (i.a) ((b : Int)) (0) (0) = i := by
      obtain ⟨op, a, b, c, n⟩ := i
      simp only at hk zc zn hbb ⊢
      rw [Ins.mk.injEq]
      exact ⟨hk, rfl, hbb, zc.symm, zn.symm⟩
    refine ⟨⟨by decide, by simp, Int.le_refl _⟩, ⟨by decide, by simp⟩, ⟨i.a, oa, rfl⟩, fun g => ?_, fun _ => ⟨fun g => ?_, fun _ => ⟨trivial, fun _ => ⟨hk, rfl, hbb, zc.symm, zn.symm, rfl, trivial⟩, fun g => ?_⟩⟩⟩
    · simp only [decide_eq_true_eq] at g; omega
    · simp only [decide_eq_true_eq] at g; omega
    · rw [hI, hm] at g
      exact nomatch g
  · have hbb : (0 : Int) = i.b := by
      have e : ¬ (k : Int) = 13 := ne_of_beq_false e
      rw [zb (by decide) (by omega)]
    have hI : Ins.mk (k : Int) (i.a) (0) (0) (0) = i := by
      obtain ⟨op, a, b, c, n⟩ := i
      simp only at hk zc zn hbb ⊢
      rw [Ins.mk.injEq]
      exact ⟨hk, rfl, hbb, zc.symm, zn.symm⟩
    refine ⟨⟨by decide, by simp, Int.le_refl _⟩, ⟨by decide, by simp⟩, ⟨i.a, oa, rfl⟩, fun g => ?_, fun _ => ⟨fun g => ?_, fun _ => ⟨trivial, fun _ => ⟨hk, rfl, hbb, zc.symm, zn.symm, rfl, trivial⟩, fun g => ?_⟩⟩⟩
    · simp only [decide_eq_true_eq] at g; omega
    · simp only [decide_eq_true_eq] at g; omega
    · rw [hI, hm] at g
      exact nomatch g
theorem rd_10f_ok (i : Ins) (hi : Good i) (k b : Nat) (h : (k : Int) = i.op ∧ (b : Int) = bOf i ∧ fieldsOf i.op = []) : Paid (cutVC (F Z) (lookC l32) 600 Tryd.f32 b32 (rdF i) 10 (rdC10 i []) ⟨k, b⟩) := by
  refine ⟨?_⟩
  rw [rd_10f]
  obtain ⟨hk, hb, hf⟩ := h
  obtain ⟨⟨h1, h2⟩, ⟨a0, a1⟩, ⟨b0, b1⟩, ⟨c0, c1⟩, b13, za, zb, zc, zn⟩ := good_fields hi.1
  obtain ⟨_, _, oa, ob, oc⟩ := may_parts hi.1
  have on := hi.2
  have hm := hi.1
  have hw : wordsOf i = [wordB i.op i.b] := by rw [wordsOf, hf]; rfl
  have et : List.take (([wordB i.op i.b].length : Int).toNat - 1) (List.drop 1 [wordB i.op i.b]) = [] := rfl
  rw [hf] at za zb zc zn
  have za := za (by decide)
  have zc := zc (by decide)
  have zn := zn (by decide)
  rw [hw]
  have n13 : ((k : Int) == 13) = false := by rw [hk]; exact ne13 hf (by decide)
  have hbb : (0 : Int) = i.b := by
    have e : ¬ (k : Int) = 13 := ne_of_beq_false n13
    rw [zb (by decide) (by omega)]
  refine ⟨fun e => absurd (n13.symm.trans e) (by decide), fun e => ?_⟩
  · have hI : Ins.mk (k : Int) (0) (0) (0) (0) = i := by
      obtain ⟨op, a, b, c, n⟩ := i
      simp only at hk za zc zn hbb ⊢
      rw [Ins.mk.injEq]
      exact ⟨hk, za.symm, hbb, zc.symm, zn.symm⟩
    refine ⟨⟨by decide, by simp, Int.le_refl _⟩, trivial, fun _ => ⟨hk, za.symm, hbb, zc.symm, zn.symm, rfl, trivial⟩, fun g => ?_⟩
    · rw [hI, hm] at g
      exact nomatch g
theorem l32Ok : CtrOk (F Z).S (lookC l32) := lookC_ok fun p h => by
  simp only [l32, List.mem_cons, List.not_mem_nil, or_false] at h
  rcases h with rfl | rfl | rfl | rfl
  · exact mayOk
  · exact vbOk
  · exact splitOk
  · exact nmOk
theorem rd_cuts (i : Ins) (hi : Good i) : ∀ p, p ∈ rdCuts i → ∀ s, p.2.I s → Paid (cutVC (F Z) (lookC l32) 600 Tryd.f32 b32 (rdF i) p.1 p.2 s) := by
  intro p hm s hI
  simp only [rdCuts, List.mem_cons, List.not_mem_nil, or_false] at hm
  rcases hm with rfl | rfl | rfl | rfl | rfl | rfl | rfl
  · exact rd_6_ok i hi s.k s.b hI
  · exact rd_10a_ok i hi s.k s.b hI
  · exact rd_10b_ok i hi s.k s.b hI
  · exact rd_10c_ok i hi s.k s.b hI
  · exact rd_10d_ok i hi s.k s.b hI
  · exact rd_10e_ok i hi s.k s.b hI
  · exact rd_10f_ok i hi s.k s.b hI
theorem rd1Ok (i : Ins) (hi : Good i) : CtrOk1 (F Z).S 32 (mkCtr (rdD i)) :=
  mkCtr_paid (fn := Tryd.f32) (body := b32) (ctr := lookC l32) codOk noExt hookLow l32Ok Tryd.func32 rfl rfl rfl (rdD i) 600 (fun _ => rdCuts i) (show 1 ≤ Tryd.f32.ntmps by decide) (show Tryd.f32.ntmps ≤ 512 by decide) (by kernel_rfl) (fun _ _ => ⟨rfl, rfl⟩)
    (fun (x : List UInt8 × Unit) hp => by
      obtain ⟨x, u⟩ := x
      obtain rfl : x = lineS i := hp
      exact rd_e_ok i hi) (fun (x : List UInt8 × Unit) hp p hm s hI => rd_cuts i hi p hm s hI)
/-- text.read, at the line of some instruction that may be. -/
noncomputable def readCtr : Ctr cod := fun wlo args h K => match args with
  | [x] => match strOf x with
    | some s => .ex Ins fun i => .need (Good i ∧ s = lineS i) (K (.tup [insS i, .a .nili]) h)
    | none => .stuck "read: what"
  | _ => .stuck "read"
theorem readOk : CtrOk1 (F Z).S 32 readCtr := by
  intro E lo wlo args h H K av hh hS hA
  unfold readCtr at hh
  split at hh
  · rename_i x
    split at hh
    · rename_i s hs
      obtain ⟨i, ⟨hi, rfl⟩, hh⟩ := hh
      obtain ⟨a0, as1, rfl, h1, hA1⟩ := hA.inv_cons
      obtain rfl := hA1.inv_nil
      obtain rfl := strOf_ok h1 hs
      refine rd1Ok i hi E lo wlo [.s (lineS i)] h H K _ ?_ hS (.cons (.s _) .nil)
      show lineS i = lineS i ∧ (K (.tup [insS i, .a .nili]) (h ++ [])).holds
      rw [List.append_nil]
      exact ⟨rfl, hh⟩
    · exact (stuck_no hh).elim
  · exact (stuck_no hh).elim
end Go.Proofs.YtbbbpnaghipfmaaDoor
