/- text.verb, and text.read at any line: the contracts are paid. Printed by a program (gen_rh2.py). -/
import Derived.Test.YtbbbpnaghipfmaaGreatDoorRg
namespace Go.Proofs.YtbbbpnaghipfmaaGreatDoor
open Go.RowKit Go.Am Go.Sy
set_option linter.unusedVariables false
set_option linter.unusedSimpArgs false

theorem vb_e (op b : Int) : Go.Sy.Tree.holds (entryX F (lookC []) 400 Tryz.f27 b27 ⟨[], .tup [.s (wordB op b), .s (fieldsOf op)], []⟩ [.i .i64 op, .i .i64 b]) = ( ((op == 1) = true → [(115 : UInt8), 101, 116] = wordB op b
 ∧ [(97 : UInt8), 110] = fieldsOf op ∧ True) ∧ ((op == 1) = false → ((op == 2) = true → [(97 : UInt8), 100, 100] = wordB op b ∧ [(97 : UInt8), 98, 99] = fieldsOf op ∧ True) ∧ ((op == 2) = false → ((op == 3) = true → [(115
 : UInt8), 117, 98] = wordB op b ∧ [(97 : UInt8), 98, 99] = fieldsOf op ∧ True) ∧ ((op == 3) = false → ((op == 4) = true → [(109 : UInt8), 117, 108] = wordB op b ∧ [(97 : UInt8), 98, 99] = fieldsOf op ∧ True) ∧ ((op == 4)
 = false → ((op == 5) = true → [(120 : UInt8), 111, 114] = wordB op b ∧ [(97 : UInt8), 98, 99] = fieldsOf op ∧ True) ∧ ((op == 5) = false → ((op == 6) = true → [(108 : UInt8), 101, 115, 115] = wordB op b ∧ [(97 : UInt8),
 98, 99] = fieldsOf op ∧ True) ∧ ((op == 6) = false → ((op == 7) = true → [(115 : UInt8), 97, 109, 101] = wordB op b ∧ [(97 : UInt8), 98, 99] = fieldsOf op ∧ True) ∧ ((op == 7) = false → ((op == 8) = true → [(108 :
 UInt8), 111, 97, 100] = wordB op b ∧ [(97 : UInt8), 98, 110] = fieldsOf op ∧ True) ∧ ((op == 8) = false → ((op == 9) = true → [(115 : UInt8), 116, 111, 114, 101] = wordB op b ∧ [(97 : UInt8), 98, 110] = fieldsOf op ∧
 True) ∧ ((op == 9) = false → ((op == 10) = true → [(116 : UInt8), 97, 107, 101] = wordB op b ∧ [(98 : UInt8), 110] = fieldsOf op ∧ True) ∧ ((op == 10) = false → ((op == 11) = true → [(103 : UInt8), 105, 118, 101] = wordB
 op b ∧ [(98 : UInt8), 110] = fieldsOf op ∧ True) ∧ ((op == 11) = false → ((op == 12) = true → [(108 : UInt8), 111, 103] = wordB op b ∧ [(97 : UInt8)] = fieldsOf op ∧ True) ∧ ((op == 12) = false → ((op == 13) = true → ((b
 == 1) = true → [(114 : UInt8), 101, 97, 100] = wordB op b ∧ [(97 : UInt8)] = fieldsOf op ∧ True) ∧ ((b == 1) = false → [(101 : UInt8), 110, 116, 101, (114 : UInt8)] = wordB op b ∧ [(97 : UInt8)] = fieldsOf op ∧ True)) ∧
 ((op == 13) = false → ((op == 14) = true → [(108 : UInt8), 101, 97, 118, (101 : UInt8)] = wordB op b ∧ [] = fieldsOf op ∧ True) ∧ ((op == 14) = false → ((op == 15) = true → [(119 : UInt8), 97, 105, (116 : UInt8)] = wordB
 op b ∧ [(97 : UInt8)] = fieldsOf op ∧ True) ∧ ((op == 15) = false → ((op == 16) = true → [(115 : UInt8), 105, 103, (110 : UInt8), 97, 108] = wordB op b ∧ [(97 : UInt8)] = fieldsOf op ∧ True) ∧ ((op == 16) = false → ((op
 == 17) = true → [(99 : UInt8), 97, 115, (116 : UInt8)] = wordB op b ∧ [(97 : UInt8)] = fieldsOf op ∧ True) ∧ ((op == 17) = false → ((op == 18) = true → [(105 : UInt8), 102] = wordB op b ∧ [(97 : UInt8)] = fieldsOf op ∧
 True) ∧ ((op == 18) = false → ((op == 19) = true → [(101 : UInt8), 108, (115 : UInt8), 101] = wordB op b ∧ [] = fieldsOf op ∧ True) ∧ ((op == 19) = false → ((op == 20) = true → [(101 : UInt8), 110, (100 : UInt8)] = wordB
 op b ∧ [] = fieldsOf op ∧ True) ∧ ((op == 20) = false → ((op == 21) = true → [(108 : UInt8), 111, (111 : UInt8), (112 : UInt8)] = wordB op b ∧ [(97 : UInt8)] = fieldsOf op ∧ True) ∧ ((op == 21) = false → [(98 : UInt8),
 97, (99 : UInt8), 107] = wordB op b ∧ [] = fieldsOf op ∧ True)))))))))))))))))))))) := by kernel_rfl
theorem rd_e (s : List UInt8) (i : Ins) (e : AVal) : Go.Sy.Tree.holds (entryX F (lookC l21) 600 Tryz.f21 b21 (rdF s i e) [.s s]) = ( s.length < 4294967281 ∧ ∃ (s_1 : RdS), splitL (32 : UInt8) s = splitL (32 : UInt8) s ∧
 (1 : Int) = (↑s_1.k : Int) ∧ (0 : Int) = (↑s_1.b : Int) ∧ rdI s s_1 ∧ True) := by kernel_rfl
theorem rd_6 (s : List UInt8) (i : Ins) (e : AVal) (k b : Nat) : Go.Sy.Tree.holds (cutVC F (lookC l21) 600 Tryz.f21 b21 (rdF s i e) 6 (rdC6 s) ⟨k, b⟩) = ( (decide ((↑b : Int) ≤ 1) = true → vbD.pre ((↑k : Int), (↑b : Int),
 ()) ∧ ((0 : Int) ≤ 0 ∧ (0 : Int) < (↑(splitL (32 : UInt8) s).length : Int)) ∧ ((!wordB (↑k : Int) (↑b : Int) == at3 (splitL (32 : UInt8) s) (0 : Int)) = true → ∃ (s_1 : RdS), splitL (32 : UInt8) s = splitL (32 : UInt8) s
 ∧ (↑k : Int) = (↑s_1.k : Int) ∧ IntKind.i64.wrap ((↑b : Int) + 1) = (↑s_1.b : Int) ∧ rdI s s_1 ∧ ((23 : Nat) - s_1.k) * 10 + ((2 : Nat) - s_1.b) * 2 + 1 < ((23 : Nat) - k) * 10 + ((2 : Nat) - b) * 2 + 1 ∧ True) ∧
 ((!wordB (↑k : Int) (↑b : Int) == at3 (splitL (32 : UInt8) s) (0 : Int)) = false → (((↑(fieldsOf (↑k : Int)).length : Int) != IntKind.i64.wrap ((↑(splitL (32 : UInt8) s).length : Int) - 1)) = true → ∃ (s_1 : RdS), splitL
 (32 : UInt8) s = splitL (32 : UInt8) s ∧ (↑k : Int) = (↑s_1.k : Int) ∧ IntKind.i64.wrap ((↑b : Int) + 1) = (↑s_1.b : Int) ∧ rdI s s_1 ∧ ((23 : Nat) - s_1.k) * 10 + ((2 : Nat) - s_1.b) * 2 + 1 < ((23 : Nat) - k) * 10 +
 ((2 : Nat) - b) * 2 + 1 ∧ True) ∧ (((↑(fieldsOf (↑k : Int)).length : Int) != IntKind.i64.wrap ((↑(splitL (32 : UInt8) s).length : Int) - 1)) = false → ∃ (b_1 : Bool), (b_1 = true → ∃ (s_1 : RdS), splitL (32 : UInt8) s =
 splitL (32 : UInt8) s ∧ (↑k : Int) = (↑s_1.k : Int) ∧ (↑b : Int) = (↑s_1.b : Int) ∧ AVal.str (fieldsOf (↑k : Int)) = AVal.str [(97 : UInt8), 110] ∧ rdJ s [(97 : UInt8), 110] s_1 ∧ ((23 : Nat) - s_1.k) * 10 + ((2 : Nat) -
 s_1.b) * 2 < ((23 : Nat) - k) * 10 + ((2 : Nat) - b) * 2 + 1 ∧ True) ∧ (b_1 = false → ∃ (b_2 : Bool), (b_2 = true → ∃ (s_1 : RdS), splitL (32 : UInt8) s = splitL (32 : UInt8) s ∧ (↑k : Int) = (↑s_1.k : Int) ∧ (↑b : Int)
 = (↑s_1.b : Int) ∧ AVal.str (fieldsOf (↑k : Int)) = AVal.str [(97 : UInt8), 98, 99] ∧ rdJ s [(97 : UInt8), 98, 99] s_1 ∧ ((23 : Nat) - s_1.k) * 10 + ((2 : Nat) - s_1.b) * 2 < ((23 : Nat) - k) * 10 + ((2 : Nat) - b) * 2 +
 1 ∧ True) ∧ (b_2 = false → ∃ (b_3 : Bool), (b_3 = true → ∃ (s_1 : RdS), splitL (32 : UInt8) s = splitL (32 : UInt8) s ∧ (↑k : Int) = (↑s_1.k : Int) ∧ (↑b : Int) = (↑s_1.b : Int) ∧ AVal.str (fieldsOf (↑k : Int)) =
 AVal.str [(97 : UInt8), 98, 110] ∧ rdJ s [(97 : UInt8), 98, 110] s_1 ∧ ((23 : Nat) - s_1.k) * 10 + ((2 : Nat) - s_1.b) * 2 < ((23 : Nat) - k) * 10 + ((2 : Nat) - b) * 2 + 1 ∧ True) ∧ (b_3 = false → ∃ (b_4 : Bool), (b_4 =
 true → ∃ (s_1 : RdS), splitL (32 : UInt8) s = splitL (32 : UInt8) s ∧ (↑k : Int) = (↑s_1.k : Int) ∧ (↑b : Int) = (↑s_1.b : Int) ∧ AVal.str (fieldsOf (↑k : Int)) = AVal.str [(98 : UInt8), 110] ∧ rdJ s [(98 : UInt8), 110]
 s_1 ∧ ((23 : Nat) - s_1.k) * 10 + ((2 : Nat) - s_1.b) * 2 < ((23 : Nat) - k) * 10 + ((2 : Nat) - b) * 2 + 1 ∧ True) ∧ (b_4 = false → ∃ (b_5 : Bool), (b_5 = true → ∃ (s_1 : RdS), splitL (32 : UInt8) s = splitL (32 :
 UInt8) s ∧ (↑k : Int) = (↑s_1.k : Int) ∧ (↑b : Int) = (↑s_1.b : Int) ∧ AVal.str (fieldsOf (↑k : Int)) = AVal.str [(97 : UInt8)] ∧ rdJ s [(97 : UInt8)] s_1 ∧ ((23 : Nat) - s_1.k) * 10 + ((2 : Nat) - s_1.b) * 2 < ((23 :
 Nat) - k) * 10 + ((2 : Nat) - b) * 2 + 1 ∧ True) ∧ (b_5 = false → ∃ (s_1 : RdS), splitL (32 : UInt8) s = splitL (32 : UInt8) s ∧ (↑k : Int) = (↑s_1.k : Int) ∧ (↑b : Int) = (↑s_1.b : Int) ∧ AVal.str (fieldsOf (↑k : Int))
 = AVal.str [] ∧ rdJ s [] s_1 ∧ ((23 : Nat) - s_1.k) * 10 + ((2 : Nat) - s_1.b) * 2 < ((23 : Nat) - k) * 10 + ((2 : Nat) - b) * 2 + 1 ∧ True)))))))) ∧ (decide ((↑b : Int) ≤ 1) = false → (decide (IntKind.i64.wrap ((↑k :
 Int) + 1) ≤ 22) = true → ∃ (s_1 : RdS), splitL (32 : UInt8) s = splitL (32 : UInt8) s ∧ IntKind.i64.wrap ((↑k : Int) + 1) = (↑s_1.k : Int) ∧ (0 : Int) = (↑s_1.b : Int) ∧ rdI s s_1 ∧ ((23 : Nat) - s_1.k) * 10 + ((2 : Nat)
 - s_1.b) * 2 + 1 < ((23 : Nat) - k) * 10 + ((2 : Nat) - b) * 2 + 1 ∧ True) ∧ (decide (IntKind.i64.wrap ((↑k : Int) + 1) ≤ 22) = false → (0 : Int) = i.op ∧ (0 : Int) = i.a ∧ (0 : Int) = i.b ∧ (0 : Int) = i.c ∧ (0 : Int) =
 i.n ∧ AVal.iface (144 : TypeId) (AVal.eptr (4 : Nat) [AVal.str [(99 : UInt8), 111, 100, 101, 32, (51 : UInt8)]]) = e ∧ True))) := by kernel_rfl
theorem rd_10a (s : List UInt8) (i : Ins) (e : AVal) (k b : Nat) : Go.Sy.Tree.holds (cutVC F (lookC l21) 600 Tryz.f21 b21 (rdF s i e) 10 (rdC10 s [97, 110]) ⟨k, b⟩) = ( (((↑k : Int) == 13) = true → ((0 : Int) ≤ 1 ∧ (1 :
 Int) ≤ (↑(splitL (32 : UInt8) s).length : Int) ∧ (↑(splitL (32 : UInt8) s).length : Int) ≤ (↑(splitL (32 : UInt8) s).length : Int)) ∧ ((0 : Int) ≤ 0 ∧ (0 : Int) < (↑(List.take ((↑(splitL (32 : UInt8) s).length :
 Int).toNat - 1) (List.drop (1 : Nat) (splitL (32 : UInt8) s))).length : Int)) ∧ nmD.pre (at3 (List.take ((↑(splitL (32 : UInt8) s).length : Int).toNat - 1) (List.drop (1 : Nat) (splitL (32 : UInt8) s))) (0 : Int), ()) ∧
 ((!(numT (at3 (List.take ((↑(splitL (32 : UInt8) s).length : Int).toNat - 1) (List.drop (1 : Nat) (splitL (32 : UInt8) s))) (0 : Int))).snd) = true → ∃ (s_1 : RdS), splitL (32 : UInt8) s = splitL (32 : UInt8) s ∧ (↑k :
 Int) = (↑s_1.k : Int) ∧ IntKind.i64.wrap ((↑b : Int) + 1) = (↑s_1.b : Int) ∧ rdI s s_1 ∧ ((23 : Nat) - s_1.k) * 10 + ((2 : Nat) - s_1.b) * 2 + 1 < ((23 : Nat) - k) * 10 + ((2 : Nat) - b) * 2 ∧ True) ∧ ((!(numT (at3
 (List.take ((↑(splitL (32 : UInt8) s).length : Int).toNat - 1) (List.drop (1 : Nat) (splitL (32 : UInt8) s))) (0 : Int))).snd) = false → (decide ((numT (at3 (List.take ((↑(splitL (32 : UInt8) s).length : Int).toNat - 1)
 (List.drop (1 : Nat) (splitL (32 : UInt8) s))) (0 : Int))).fst < 0) = true → ∃ (s_1 : RdS), splitL (32 : UInt8) s = splitL (32 : UInt8) s ∧ (↑k : Int) = (↑s_1.k : Int) ∧ IntKind.i64.wrap ((↑b : Int) + 1) = (↑s_1.b : Int)
 ∧ rdI s s_1 ∧ ((23 : Nat) - s_1.k) * 10 + ((2 : Nat) - s_1.b) * 2 + 1 < ((23 : Nat) - k) * 10 + ((2 : Nat) - b) * 2 ∧ True) ∧ (decide ((numT (at3 (List.take ((↑(splitL (32 : UInt8) s).length : Int).toNat - 1) (List.drop
 (1 : Nat) (splitL (32 : UInt8) s))) (0 : Int))).fst < 0) = false → (decide ((numT (at3 (List.take ((↑(splitL (32 : UInt8) s).length : Int).toNat - 1) (List.drop (1 : Nat) (splitL (32 : UInt8) s))) (0 : Int))).fst > 9) =
 true → ∃ (s_1 : RdS), splitL (32 : UInt8) s = splitL (32 : UInt8) s ∧ (↑k : Int) = (↑s_1.k : Int) ∧ IntKind.i64.wrap ((↑b : Int) + 1) = (↑s_1.b : Int) ∧ rdI s s_1 ∧ ((23 : Nat) - s_1.k) * 10 + ((2 : Nat) - s_1.b) * 2 + 1
 < ((23 : Nat) - k) * 10 + ((2 : Nat) - b) * 2 ∧ True) ∧ (decide ((numT (at3 (List.take ((↑(splitL (32 : UInt8) s).length : Int).toNat - 1) (List.drop (1 : Nat) (splitL (32 : UInt8) s))) (0 : Int))).fst > 9) = false → ((0
 : Int) ≤ 1 ∧ (1 : Int) < (↑(List.take ((↑(splitL (32 : UInt8) s).length : Int).toNat - 1) (List.drop (1 : Nat) (splitL (32 : UInt8) s))).length : Int)) ∧ nmD.pre (at3 (List.take ((↑(splitL (32 : UInt8) s).length :
 Int).toNat - 1) (List.drop (1 : Nat) (splitL (32 : UInt8) s))) (1 : Int), ()) ∧ ((!(numT (at3 (List.take ((↑(splitL (32 : UInt8) s).length : Int).toNat - 1) (List.drop (1 : Nat) (splitL (32 : UInt8) s))) (1 : Int))).snd)
 = true → ∃ (s_1 : RdS), splitL (32 : UInt8) s = splitL (32 : UInt8) s ∧ (↑k : Int) = (↑s_1.k : Int) ∧ IntKind.i64.wrap ((↑b : Int) + 1) = (↑s_1.b : Int) ∧ rdI s s_1 ∧ ((23 : Nat) - s_1.k) * 10 + ((2 : Nat) - s_1.b) * 2 +
 1 < ((23 : Nat) - k) * 10 + ((2 : Nat) - b) * 2 ∧ True) ∧ ((!(numT (at3 (List.take ((↑(splitL (32 : UInt8) s).length : Int).toNat - 1) (List.drop (1 : Nat) (splitL (32 : UInt8) s))) (1 : Int))).snd) = false → mayD.pre
 (Ins.mk (↑k : Int) (numT (at3 (List.take ((↑(splitL (32 : UInt8) s).length : Int).toNat - 1) (List.drop (1 : Nat) (splitL (32 : UInt8) s))) (0 : Int))).fst (↑b : Int) (0 : Int) (numT (at3 (List.take ((↑(splitL (32 :
 UInt8) s).length : Int).toNat - 1) (List.drop (1 : Nat) (splitL (32 : UInt8) s))) (1 : Int))).fst, ()) ∧ (mayB (Ins.mk (↑k : Int) (numT (at3 (List.take ((↑(splitL (32 : UInt8) s).length : Int).toNat - 1) (List.drop (1 :
 Nat) (splitL (32 : UInt8) s))) (0 : Int))).fst (↑b : Int) (0 : Int) (numT (at3 (List.take ((↑(splitL (32 : UInt8) s).length : Int).toNat - 1) (List.drop (1 : Nat) (splitL (32 : UInt8) s))) (1 : Int))).fst) = true → (↑k :
 Int) = i.op ∧ (numT (at3 (List.take ((↑(splitL (32 : UInt8) s).length : Int).toNat - 1) (List.drop (1 : Nat) (splitL (32 : UInt8) s))) (0 : Int))).fst = i.a ∧ (↑b : Int) = i.b ∧ (0 : Int) = i.c ∧ (numT (at3 (List.take
 ((↑(splitL (32 : UInt8) s).length : Int).toNat - 1) (List.drop (1 : Nat) (splitL (32 : UInt8) s))) (1 : Int))).fst = i.n ∧ constA Value.nilIface = e ∧ True) ∧ (mayB (Ins.mk (↑k : Int) (numT (at3 (List.take ((↑(splitL (32
 : UInt8) s).length : Int).toNat - 1) (List.drop (1 : Nat) (splitL (32 : UInt8) s))) (0 : Int))).fst (↑b : Int) (0 : Int) (numT (at3 (List.take ((↑(splitL (32 : UInt8) s).length : Int).toNat - 1) (List.drop (1 : Nat)
 (splitL (32 : UInt8) s))) (1 : Int))).fst) = false → ∃ (s_1 : RdS), splitL (32 : UInt8) s = splitL (32 : UInt8) s ∧ (↑k : Int) = (↑s_1.k : Int) ∧ IntKind.i64.wrap ((↑b : Int) + 1) = (↑s_1.b : Int) ∧ rdI s s_1 ∧ ((23 :
 Nat) - s_1.k) * 10 + ((2 : Nat) - s_1.b) * 2 + 1 < ((23 : Nat) - k) * 10 + ((2 : Nat) - b) * 2 ∧ True)))))) ∧ (((↑k : Int) == 13) = false → ((0 : Int) ≤ 1 ∧ (1 : Int) ≤ (↑(splitL (32 : UInt8) s).length : Int) ∧ (↑(splitL
 (32 : UInt8) s).length : Int) ≤ (↑(splitL (32 : UInt8) s).length : Int)) ∧ ((0 : Int) ≤ 0 ∧ (0 : Int) < (↑(List.take ((↑(splitL (32 : UInt8) s).length : Int).toNat - 1) (List.drop (1 : Nat) (splitL (32 : UInt8)
 s))).length : Int)) ∧ nmD.pre (at3 (List.take ((↑(splitL (32 : UInt8) s).length : Int).toNat - 1) (List.drop (1 : Nat) (splitL (32 : UInt8) s))) (0 : Int), ()) ∧ ((!(numT (at3 (List.take ((↑(splitL (32 : UInt8) s).length
 : Int).toNat - 1) (List.drop (1 : Nat) (splitL (32 : UInt8) s))) (0 : Int))).snd) = true → ∃ (s_1 : RdS), splitL (32 : UInt8) s = splitL (32 : UInt8) s ∧ (↑k : Int) = (↑s_1.k : Int) ∧ IntKind.i64.wrap ((↑b : Int) + 1) =
 (↑s_1.b : Int) ∧ rdI s s_1 ∧ ((23 : Nat) - s_1.k) * 10 + ((2 : Nat) - s_1.b) * 2 + 1 < ((23 : Nat) - k) * 10 + ((2 : Nat) - b) * 2 ∧ True) ∧ ((!(numT (at3 (List.take ((↑(splitL (32 : UInt8) s).length : Int).toNat - 1)
 (List.drop (1 : Nat) (splitL (32 : UInt8) s))) (0 : Int))).snd) = false → (decide ((numT (at3 (List.take ((↑(splitL (32 : UInt8) s).length : Int).toNat - 1) (List.drop (1 : Nat) (splitL (32 : UInt8) s))) (0 : Int))).fst
 < 0) = true → ∃ (s_1 : RdS), splitL (32 : UInt8) s = splitL (32 : UInt8) s ∧ (↑k : Int) = (↑s_1.k : Int) ∧ IntKind.i64.wrap ((↑b : Int) + 1) = (↑s_1.b : Int) ∧ rdI s s_1 ∧ ((23 : Nat) - s_1.k) * 10 + ((2 : Nat) - s_1.b)
 * 2 + 1 < ((23 : Nat) - k) * 10 + ((2 : Nat) - b) * 2 ∧ True) ∧ (decide ((numT (at3 (List.take ((↑(splitL (32 : UInt8) s).length : Int).toNat - 1) (List.drop (1 : Nat) (splitL (32 : UInt8) s))) (0 : Int))).fst < 0) =
 false → (decide ((numT (at3 (List.take ((↑(splitL (32 : UInt8) s).length : Int).toNat - 1) (List.drop (1 : Nat) (splitL (32 : UInt8) s))) (0 : Int))).fst > 9) = true → ∃ (s_1 : RdS), splitL (32 : UInt8) s = splitL (32 :
 UInt8) s ∧ (↑k : Int) = (↑s_1.k : Int) ∧ IntKind.i64.wrap ((↑b : Int) + 1) = (↑s_1.b : Int) ∧ rdI s s_1 ∧ ((23 : Nat) - s_1.k) * 10 + ((2 : Nat) - s_1.b) * 2 + 1 < ((23 : Nat) - k) * 10 + ((2 : Nat) - b) * 2 ∧ True) ∧
 (decide ((numT (at3 (List.take ((↑(splitL (32 : UInt8) s).length : Int).toNat - 1) (List.drop (1 : Nat) (splitL (32 : UInt8) s))) (0 : Int))).fst > 9) = false → ((0 : Int) ≤ 1 ∧ (1 : Int) < (↑(List.take ((↑(splitL (32 :
 UInt8) s).length : Int).toNat - 1) (List.drop (1 : Nat) (splitL (32 : UInt8) s))).length : Int)) ∧ nmD.pre (at3 (List.take ((↑(splitL (32 : UInt8) s).length : Int).toNat - 1) (List.drop (1 : Nat) (splitL (32 : UInt8)
 s))) (1 : Int), ()) ∧ ((!(numT (at3 (List.take ((↑(splitL (32 : UInt8) s).length : Int).toNat - 1) (List.drop (1 : Nat) (splitL (32 : UInt8) s))) (1 : Int))).snd) = true → ∃ (s_1 : RdS), splitL (32 : UInt8) s = splitL
 (32 : UInt8) s ∧ (↑k : Int) = (↑s_1.k : Int) ∧ IntKind.i64.wrap ((↑b : Int) + 1) = (↑s_1.b : Int) ∧ rdI s s_1 ∧ ((23 : Nat) - s_1.k) * 10 + ((2 : Nat) - s_1.b) * 2 + 1 < ((23 : Nat) - k) * 10 + ((2 : Nat) - b) * 2 ∧
 True) ∧ ((!(numT (at3 (List.take ((↑(splitL (32 : UInt8) s).length : Int).toNat - 1) (List.drop (1 : Nat) (splitL (32 : UInt8) s))) (1 : Int))).snd) = false → mayD.pre (Ins.mk (↑k : Int) (numT (at3 (List.take ((↑(splitL
 (32 : UInt8) s).length : Int).toNat - 1) (List.drop (1 : Nat) (splitL (32 : UInt8) s))) (0 : Int))).fst (0 : Int) (0 : Int) (numT (at3 (List.take ((↑(splitL (32 : UInt8) s).length : Int).toNat - 1) (List.drop (1 : Nat)
 (splitL (32 : UInt8) s))) (1 : Int))).fst, ()) ∧ (mayB (Ins.mk (↑k : Int) (numT (at3 (List.take ((↑(splitL (32 : UInt8) s).length : Int).toNat - 1) (List.drop (1 : Nat) (splitL (32 : UInt8) s))) (0 : Int))).fst (0 : Int)
 (0 : Int) (numT (at3 (List.take ((↑(splitL (32 : UInt8) s).length : Int).toNat - 1) (List.drop (1 : Nat) (splitL (32 : UInt8) s))) (1 : Int))).fst) = true → (↑k : Int) = i.op ∧ (numT (at3 (List.take ((↑(splitL (32 :
 UInt8) s).length : Int).toNat - 1) (List.drop (1 : Nat) (splitL (32 : UInt8) s))) (0 : Int))).fst = i.a ∧ (0 : Int) = i.b ∧ (0 : Int) = i.c ∧ (numT (at3 (List.take ((↑(splitL (32 : UInt8) s).length : Int).toNat - 1)
 (List.drop (1 : Nat) (splitL (32 : UInt8) s))) (1 : Int))).fst = i.n ∧ constA Value.nilIface = e ∧ True) ∧ (mayB (Ins.mk (↑k : Int) (numT (at3 (List.take ((↑(splitL (32 : UInt8) s).length : Int).toNat - 1) (List.drop (1
 : Nat) (splitL (32 : UInt8) s))) (0 : Int))).fst (0 : Int) (0 : Int) (numT (at3 (List.take ((↑(splitL (32 : UInt8) s).length : Int).toNat - 1) (List.drop (1 : Nat) (splitL (32 : UInt8) s))) (1 : Int))).fst) = false → ∃
 (s_1 : RdS), splitL (32 : UInt8) s = splitL (32 : UInt8) s ∧ (↑k : Int) = (↑s_1.k : Int) ∧ IntKind.i64.wrap ((↑b : Int) + 1) = (↑s_1.b : Int) ∧ rdI s s_1 ∧ ((23 : Nat) - s_1.k) * 10 + ((2 : Nat) - s_1.b) * 2 + 1 < ((23 :
 Nat) - k) * 10 + ((2 : Nat) - b) * 2 ∧ True))))))) := by kernel_rfl
theorem rd_10b (s : List UInt8) (i : Ins) (e : AVal) (k b : Nat) : Go.Sy.Tree.holds (cutVC F (lookC l21) 600 Tryz.f21 b21 (rdF s i e) 10 (rdC10 s [97, 98, 99]) ⟨k, b⟩) = ( (((↑k : Int) == 13) = true → ((0 : Int) ≤ 1 ∧ (1
 : Int) ≤ (↑(splitL (32 : UInt8) s).length : Int) ∧ (↑(splitL (32 : UInt8) s).length : Int) ≤ (↑(splitL (32 : UInt8) s).length : Int)) ∧ ((0 : Int) ≤ 0 ∧ (0 : Int) < (↑(List.take ((↑(splitL (32 : UInt8) s).length :
 Int).toNat - 1) (List.drop (1 : Nat) (splitL (32 : UInt8) s))).length : Int)) ∧ nmD.pre (at3 (List.take ((↑(splitL (32 : UInt8) s).length : Int).toNat - 1) (List.drop (1 : Nat) (splitL (32 : UInt8) s))) (0 : Int), ()) ∧
 ((!(numT (at3 (List.take ((↑(splitL (32 : UInt8) s).length : Int).toNat - 1) (List.drop (1 : Nat) (splitL (32 : UInt8) s))) (0 : Int))).snd) = true → ∃ (s_1 : RdS), splitL (32 : UInt8) s = splitL (32 : UInt8) s ∧ (↑k :
 Int) = (↑s_1.k : Int) ∧ IntKind.i64.wrap ((↑b : Int) + 1) = (↑s_1.b : Int) ∧ rdI s s_1 ∧ ((23 : Nat) - s_1.k) * 10 + ((2 : Nat) - s_1.b) * 2 + 1 < ((23 : Nat) - k) * 10 + ((2 : Nat) - b) * 2 ∧ True) ∧ ((!(numT (at3
 (List.take ((↑(splitL (32 : UInt8) s).length : Int).toNat - 1) (List.drop (1 : Nat) (splitL (32 : UInt8) s))) (0 : Int))).snd) = false → (decide ((numT (at3 (List.take ((↑(splitL (32 : UInt8) s).length : Int).toNat - 1)
 (List.drop (1 : Nat) (splitL (32 : UInt8) s))) (0 : Int))).fst < 0) = true → ∃ (s_1 : RdS), splitL (32 : UInt8) s = splitL (32 : UInt8) s ∧ (↑k : Int) = (↑s_1.k : Int) ∧ IntKind.i64.wrap ((↑b : Int) + 1) = (↑s_1.b : Int)
 ∧ rdI s s_1 ∧ ((23 : Nat) - s_1.k) * 10 + ((2 : Nat) - s_1.b) * 2 + 1 < ((23 : Nat) - k) * 10 + ((2 : Nat) - b) * 2 ∧ True) ∧ (decide ((numT (at3 (List.take ((↑(splitL (32 : UInt8) s).length : Int).toNat - 1) (List.drop
 (1 : Nat) (splitL (32 : UInt8) s))) (0 : Int))).fst < 0) = false → (decide ((numT (at3 (List.take ((↑(splitL (32 : UInt8) s).length : Int).toNat - 1) (List.drop (1 : Nat) (splitL (32 : UInt8) s))) (0 : Int))).fst > 9) =
 true → ∃ (s_1 : RdS), splitL (32 : UInt8) s = splitL (32 : UInt8) s ∧ (↑k : Int) = (↑s_1.k : Int) ∧ IntKind.i64.wrap ((↑b : Int) + 1) = (↑s_1.b : Int) ∧ rdI s s_1 ∧ ((23 : Nat) - s_1.k) * 10 + ((2 : Nat) - s_1.b) * 2 + 1
 < ((23 : Nat) - k) * 10 + ((2 : Nat) - b) * 2 ∧ True) ∧ (decide ((numT (at3 (List.take ((↑(splitL (32 : UInt8) s).length : Int).toNat - 1) (List.drop (1 : Nat) (splitL (32 : UInt8) s))) (0 : Int))).fst > 9) = false → ((0
 : Int) ≤ 1 ∧ (1 : Int) < (↑(List.take ((↑(splitL (32 : UInt8) s).length : Int).toNat - 1) (List.drop (1 : Nat) (splitL (32 : UInt8) s))).length : Int)) ∧ nmD.pre (at3 (List.take ((↑(splitL (32 : UInt8) s).length :
 Int).toNat - 1) (List.drop (1 : Nat) (splitL (32 : UInt8) s))) (1 : Int), ()) ∧ ((!(numT (at3 (List.take ((↑(splitL (32 : UInt8) s).length : Int).toNat - 1) (List.drop (1 : Nat) (splitL (32 : UInt8) s))) (1 : Int))).snd)
 = true → ∃ (s_1 : RdS), splitL (32 : UInt8) s = splitL (32 : UInt8) s ∧ (↑k : Int) = (↑s_1.k : Int) ∧ IntKind.i64.wrap ((↑b : Int) + 1) = (↑s_1.b : Int) ∧ rdI s s_1 ∧ ((23 : Nat) - s_1.k) * 10 + ((2 : Nat) - s_1.b) * 2 +
 1 < ((23 : Nat) - k) * 10 + ((2 : Nat) - b) * 2 ∧ True) ∧ ((!(numT (at3 (List.take ((↑(splitL (32 : UInt8) s).length : Int).toNat - 1) (List.drop (1 : Nat) (splitL (32 : UInt8) s))) (1 : Int))).snd) = false → (decide
 ((numT (at3 (List.take ((↑(splitL (32 : UInt8) s).length : Int).toNat - 1) (List.drop (1 : Nat) (splitL (32 : UInt8) s))) (1 : Int))).fst < 0) = true → ∃ (s_1 : RdS), splitL (32 : UInt8) s = splitL (32 : UInt8) s ∧ (↑k :
 Int) = (↑s_1.k : Int) ∧ IntKind.i64.wrap ((↑b : Int) + 1) = (↑s_1.b : Int) ∧ rdI s s_1 ∧ ((23 : Nat) - s_1.k) * 10 + ((2 : Nat) - s_1.b) * 2 + 1 < ((23 : Nat) - k) * 10 + ((2 : Nat) - b) * 2 ∧ True) ∧ (decide ((numT (at3
 (List.take ((↑(splitL (32 : UInt8) s).length : Int).toNat - 1) (List.drop (1 : Nat) (splitL (32 : UInt8) s))) (1 : Int))).fst < 0) = false → (decide ((numT (at3 (List.take ((↑(splitL (32 : UInt8) s).length : Int).toNat -
 1) (List.drop (1 : Nat) (splitL (32 : UInt8) s))) (1 : Int))).fst > 9) = true → ∃ (s_1 : RdS), splitL (32 : UInt8) s = splitL (32 : UInt8) s ∧ (↑k : Int) = (↑s_1.k : Int) ∧ IntKind.i64.wrap ((↑b : Int) + 1) = (↑s_1.b :
 Int) ∧ rdI s s_1 ∧ ((23 : Nat) - s_1.k) * 10 + ((2 : Nat) - s_1.b) * 2 + 1 < ((23 : Nat) - k) * 10 + ((2 : Nat) - b) * 2 ∧ True) ∧ (decide ((numT (at3 (List.take ((↑(splitL (32 : UInt8) s).length : Int).toNat - 1)
 (List.drop (1 : Nat) (splitL (32 : UInt8) s))) (1 : Int))).fst > 9) = false → ((0 : Int) ≤ 2 ∧ (2 : Int) < (↑(List.take ((↑(splitL (32 : UInt8) s).length : Int).toNat - 1) (List.drop (1 : Nat) (splitL (32 : UInt8)
 s))).length : Int)) ∧ nmD.pre (at3 (List.take ((↑(splitL (32 : UInt8) s).length : Int).toNat - 1) (List.drop (1 : Nat) (splitL (32 : UInt8) s))) (2 : Int), ()) ∧ ((!(numT (at3 (List.take ((↑(splitL (32 : UInt8) s).length
 : Int).toNat - 1) (List.drop (1 : Nat) (splitL (32 : UInt8) s))) (2 : Int))).snd) = true → ∃ (s_1 : RdS), splitL (32 : UInt8) s = splitL (32 : UInt8) s ∧ (↑k : Int) = (↑s_1.k : Int) ∧ IntKind.i64.wrap ((↑b : Int) + 1) =
 (↑s_1.b : Int) ∧ rdI s s_1 ∧ ((23 : Nat) - s_1.k) * 10 + ((2 : Nat) - s_1.b) * 2 + 1 < ((23 : Nat) - k) * 10 + ((2 : Nat) - b) * 2 ∧ True) ∧ ((!(numT (at3 (List.take ((↑(splitL (32 : UInt8) s).length : Int).toNat - 1)
 (List.drop (1 : Nat) (splitL (32 : UInt8) s))) (2 : Int))).snd) = false → (decide ((numT (at3 (List.take ((↑(splitL (32 : UInt8) s).length : Int).toNat - 1) (List.drop (1 : Nat) (splitL (32 : UInt8) s))) (2 : Int))).fst
 < 0) = true → ∃ (s_1 : RdS), splitL (32 : UInt8) s = splitL (32 : UInt8) s ∧ (↑k : Int) = (↑s_1.k : Int) ∧ IntKind.i64.wrap ((↑b : Int) + 1) = (↑s_1.b : Int) ∧ rdI s s_1 ∧ ((23 : Nat) - s_1.k) * 10 + ((2 : Nat) - s_1.b)
 * 2 + 1 < ((23 : Nat) - k) * 10 + ((2 : Nat) - b) * 2 ∧ True) ∧ (decide ((numT (at3 (List.take ((↑(splitL (32 : UInt8) s).length : Int).toNat - 1) (List.drop (1 : Nat) (splitL (32 : UInt8) s))) (2 : Int))).fst < 0) =
 false → (decide ((numT (at3 (List.take ((↑(splitL (32 : UInt8) s).length : Int).toNat - 1) (List.drop (1 : Nat) (splitL (32 : UInt8) s))) (2 : Int))).fst > 9) = true → ∃ (s_1 : RdS), splitL (32 : UInt8) s = splitL (32 :
 UInt8) s ∧ (↑k : Int) = (↑s_1.k : Int) ∧ IntKind.i64.wrap ((↑b : Int) + 1) = (↑s_1.b : Int) ∧ rdI s s_1 ∧ ((23 : Nat) - s_1.k) * 10 + ((2 : Nat) - s_1.b) * 2 + 1 < ((23 : Nat) - k) * 10 + ((2 : Nat) - b) * 2 ∧ True) ∧
 (decide ((numT (at3 (List.take ((↑(splitL (32 : UInt8) s).length : Int).toNat - 1) (List.drop (1 : Nat) (splitL (32 : UInt8) s))) (2 : Int))).fst > 9) = false → mayD.pre (Ins.mk (↑k : Int) (numT (at3 (List.take
 ((↑(splitL (32 : UInt8) s).length : Int).toNat - 1) (List.drop (1 : Nat) (splitL (32 : UInt8) s))) (0 : Int))).fst (numT (at3 (List.take ((↑(splitL (32 : UInt8) s).length : Int).toNat - 1) (List.drop (1 : Nat) (splitL
 (32 : UInt8) s))) (1 : Int))).fst (numT (at3 (List.take ((↑(splitL (32 : UInt8) s).length : Int).toNat - 1) (List.drop (1 : Nat) (splitL (32 : UInt8) s))) (2 : Int))).fst (0 : Int), ()) ∧ (mayB (Ins.mk (↑k : Int) (numT
 (at3 (List.take ((↑(splitL (32 : UInt8) s).length : Int).toNat - 1) (List.drop (1 : Nat) (splitL (32 : UInt8) s))) (0 : Int))).fst (numT (at3 (List.take ((↑(splitL (32 : UInt8) s).length : Int).toNat - 1) (List.drop (1 :
 Nat) (splitL (32 : UInt8) s))) (1 : Int))).fst (numT (at3 (List.take ((↑(splitL (32 : UInt8) s).length : Int).toNat - 1) (List.drop (1 : Nat) (splitL (32 : UInt8) s))) (2 : Int))).fst (0 : Int)) = true → (↑k : Int) =
 i.op ∧ (numT (at3 (List.take ((↑(splitL (32 : UInt8) s).length : Int).toNat - 1) (List.drop (1 : Nat) (splitL (32 : UInt8) s))) (0 : Int))).fst = i.a ∧ (numT (at3 (List.take ((↑(splitL (32 : UInt8) s).length : Int).toNat
 - 1) (List.drop (1 : Nat) (splitL (32 : UInt8) s))) (1 : Int))).fst = i.b ∧ (numT (at3 (List.take ((↑(splitL (32 : UInt8) s).length : Int).toNat - 1) (List.drop (1 : Nat) (splitL (32 : UInt8) s))) (2 : Int))).fst = i.c ∧
 (0 : Int) = i.n ∧ constA Value.nilIface = e ∧ True) ∧ (mayB (Ins.mk (↑k : Int) (numT (at3 (List.take ((↑(splitL (32 : UInt8) s).length : Int).toNat - 1) (List.drop (1 : Nat) (splitL (32 : UInt8) s))) (0 : Int))).fst
 (numT (at3 (List.take ((↑(splitL (32 : UInt8) s).length : Int).toNat - 1) (List.drop (1 : Nat) (splitL (32 : UInt8) s))) (1 : Int))).fst (numT (at3 (List.take ((↑(splitL (32 : UInt8) s).length : Int).toNat - 1)
 (List.drop (1 : Nat) (splitL (32 : UInt8) s))) (2 : Int))).fst (0 : Int)) = false → ∃ (s_1 : RdS), splitL (32 : UInt8) s = splitL (32 : UInt8) s ∧ (↑k : Int) = (↑s_1.k : Int) ∧ IntKind.i64.wrap ((↑b : Int) + 1) = (↑s_1.b
 : Int) ∧ rdI s s_1 ∧ ((23 : Nat) - s_1.k) * 10 + ((2 : Nat) - s_1.b) * 2 + 1 < ((23 : Nat) - k) * 10 + ((2 : Nat) - b) * 2 ∧ True))))))))))) ∧ (((↑k : Int) == 13) = false → ((0 : Int) ≤ 1 ∧ (1 : Int) ≤ (↑(splitL (32 :
 UInt8) s).length : Int) ∧ (↑(splitL (32 : UInt8) s).length : Int) ≤ (↑(splitL (32 : UInt8) s).length : Int)) ∧ ((0 : Int) ≤ 0 ∧ (0 : Int) < (↑(List.take ((↑(splitL (32 : UInt8) s).length : Int).toNat - 1) (List.drop (1 :
 Nat) (splitL (32 : UInt8) s))).length : Int)) ∧ nmD.pre (at3 (List.take ((↑(splitL (32 : UInt8) s).length : Int).toNat - 1) (List.drop (1 : Nat) (splitL (32 : UInt8) s))) (0 : Int), ()) ∧ ((!(numT (at3 (List.take
 ((↑(splitL (32 : UInt8) s).length : Int).toNat - 1) (List.drop (1 : Nat) (splitL (32 : UInt8) s))) (0 : Int))).snd) = true → ∃ (s_1 : RdS), splitL (32 : UInt8) s = splitL (32 : UInt8) s ∧ (↑k : Int) = (↑s_1.k : Int) ∧
 IntKind.i64.wrap ((↑b : Int) + 1) = (↑s_1.b : Int) ∧ rdI s s_1 ∧ ((23 : Nat) - s_1.k) * 10 + ((2 : Nat) - s_1.b) * 2 + 1 < ((23 : Nat) - k) * 10 + ((2 : Nat) - b) * 2 ∧ True) ∧ ((!(numT (at3 (List.take ((↑(splitL (32 :
 UInt8) s).length : Int).toNat - 1) (List.drop (1 : Nat) (splitL (32 : UInt8) s))) (0 : Int))).snd) = false → (decide ((numT (at3 (List.take ((↑(splitL (32 : UInt8) s).length : Int).toNat - 1) (List.drop (1 : Nat) (splitL
 (32 : UInt8) s))) (0 : Int))).fst < 0) = true → ∃ (s_1 : RdS), splitL (32 : UInt8) s = splitL (32 : UInt8) s ∧ (↑k : Int) = (↑s_1.k : Int) ∧ IntKind.i64.wrap ((↑b : Int) + 1) = (↑s_1.b : Int) ∧ rdI s s_1 ∧ ((23 : Nat) -
 s_1.k) * 10 + ((2 : Nat) - s_1.b) * 2 + 1 < ((23 : Nat) - k) * 10 + ((2 : Nat) - b) * 2 ∧ True) ∧ (decide ((numT (at3 (List.take ((↑(splitL (32 : UInt8) s).length : Int).toNat - 1) (List.drop (1 : Nat) (splitL (32 :
 UInt8) s))) (0 : Int))).fst < 0) = false → (decide ((numT (at3 (List.take ((↑(splitL (32 : UInt8) s).length : Int).toNat - 1) (List.drop (1 : Nat) (splitL (32 : UInt8) s))) (0 : Int))).fst > 9) = true → ∃ (s_1 : RdS),
 splitL (32 : UInt8) s = splitL (32 : UInt8) s ∧ (↑k : Int) = (↑s_1.k : Int) ∧ IntKind.i64.wrap ((↑b : Int) + 1) = (↑s_1.b : Int) ∧ rdI s s_1 ∧ ((23 : Nat) - s_1.k) * 10 + ((2 : Nat) - s_1.b) * 2 + 1 < ((23 : Nat) - k) *
 10 + ((2 : Nat) - b) * 2 ∧ True) ∧ (decide ((numT (at3 (List.take ((↑(splitL (32 : UInt8) s).length : Int).toNat - 1) (List.drop (1 : Nat) (splitL (32 : UInt8) s))) (0 : Int))).fst > 9) = false → ((0 : Int) ≤ 1 ∧ (1 :
 Int) < (↑(List.take ((↑(splitL (32 : UInt8) s).length : Int).toNat - 1) (List.drop (1 : Nat) (splitL (32 : UInt8) s))).length : Int)) ∧ nmD.pre (at3 (List.take ((↑(splitL (32 : UInt8) s).length : Int).toNat - 1)
 (List.drop (1 : Nat) (splitL (32 : UInt8) s))) (1 : Int), ()) ∧ ((!(numT (at3 (List.take ((↑(splitL (32 : UInt8) s).length : Int).toNat - 1) (List.drop (1 : Nat) (splitL (32 : UInt8) s))) (1 : Int))).snd) = true → ∃ (s_1
 : RdS), splitL (32 : UInt8) s = splitL (32 : UInt8) s ∧ (↑k : Int) = (↑s_1.k : Int) ∧ IntKind.i64.wrap ((↑b : Int) + 1) = (↑s_1.b : Int) ∧ rdI s s_1 ∧ ((23 : Nat) - s_1.k) * 10 + ((2 : Nat) - s_1.b) * 2 + 1 < ((23 : Nat)
 - k) * 10 + ((2 : Nat) - b) * 2 ∧ True) ∧ ((!(numT (at3 (List.take ((↑(splitL (32 : UInt8) s).length : Int).toNat - 1) (List.drop (1 : Nat) (splitL (32 : UInt8) s))) (1 : Int))).snd) = false → (decide ((numT (at3
 (List.take ((↑(splitL (32 : UInt8) s).length : Int).toNat - 1) (List.drop (1 : Nat) (splitL (32 : UInt8) s))) (1 : Int))).fst < 0) = true → ∃ (s_1 : RdS), splitL (32 : UInt8) s = splitL (32 : UInt8) s ∧ (↑k : Int) =
 (↑s_1.k : Int) ∧ IntKind.i64.wrap ((↑b : Int) + 1) = (↑s_1.b : Int) ∧ rdI s s_1 ∧ ((23 : Nat) - s_1.k) * 10 + ((2 : Nat) - s_1.b) * 2 + 1 < ((23 : Nat) - k) * 10 + ((2 : Nat) - b) * 2 ∧ True) ∧ (decide ((numT (at3
 (List.take ((↑(splitL (32 : UInt8) s).length : Int).toNat - 1) (List.drop (1 : Nat) (splitL (32 : UInt8) s))) (1 : Int))).fst < 0) = false → (decide ((numT (at3 (List.take ((↑(splitL (32 : UInt8) s).length : Int).toNat -
 1) (List.drop (1 : Nat) (splitL (32 : UInt8) s))) (1 : Int))).fst > 9) = true → ∃ (s_1 : RdS), splitL (32 : UInt8) s = splitL (32 : UInt8) s ∧ (↑k : Int) = (↑s_1.k : Int) ∧ IntKind.i64.wrap ((↑b : Int) + 1) = (↑s_1.b :
 Int) ∧ rdI s s_1 ∧ ((23 : Nat) - s_1.k) * 10 + ((2 : Nat) - s_1.b) * 2 + 1 < ((23 : Nat) - k) * 10 + ((2 : Nat) - b) * 2 ∧ True) ∧ (decide ((numT (at3 (List.take ((↑(splitL (32 : UInt8) s).length : Int).toNat - 1)
 (List.drop (1 : Nat) (splitL (32 : UInt8) s))) (1 : Int))).fst > 9) = false → ((0 : Int) ≤ 2 ∧ (2 : Int) < (↑(List.take ((↑(splitL (32 : UInt8) s).length : Int).toNat - 1) (List.drop (1 : Nat) (splitL (32 : UInt8)
 s))).length : Int)) ∧ nmD.pre (at3 (List.take ((↑(splitL (32 : UInt8) s).length : Int).toNat - 1) (List.drop (1 : Nat) (splitL (32 : UInt8) s))) (2 : Int), ()) ∧ ((!(numT (at3 (List.take ((↑(splitL (32 : UInt8) s).length
 : Int).toNat - 1) (List.drop (1 : Nat) (splitL (32 : UInt8) s))) (2 : Int))).snd) = true → ∃ (s_1 : RdS), splitL (32 : UInt8) s = splitL (32 : UInt8) s ∧ (↑k : Int) = (↑s_1.k : Int) ∧ IntKind.i64.wrap ((↑b : Int) + 1) =
 (↑s_1.b : Int) ∧ rdI s s_1 ∧ ((23 : Nat) - s_1.k) * 10 + ((2 : Nat) - s_1.b) * 2 + 1 < ((23 : Nat) - k) * 10 + ((2 : Nat) - b) * 2 ∧ True) ∧ ((!(numT (at3 (List.take ((↑(splitL (32 : UInt8) s).length : Int).toNat - 1)
 (List.drop (1 : Nat) (splitL (32 : UInt8) s))) (2 : Int))).snd) = false → (decide ((numT (at3 (List.take ((↑(splitL (32 : UInt8) s).length : Int).toNat - 1) (List.drop (1 : Nat) (splitL (32 : UInt8) s))) (2 : Int))).fst
 < 0) = true → ∃ (s_1 : RdS), splitL (32 : UInt8) s = splitL (32 : UInt8) s ∧ (↑k : Int) = (↑s_1.k : Int) ∧ IntKind.i64.wrap ((↑b : Int) + 1) = (↑s_1.b : Int) ∧ rdI s s_1 ∧ ((23 : Nat) - s_1.k) * 10 + ((2 : Nat) - s_1.b)
 * 2 + 1 < ((23 : Nat) - k) * 10 + ((2 : Nat) - b) * 2 ∧ True) ∧ (decide ((numT (at3 (List.take ((↑(splitL (32 : UInt8) s).length : Int).toNat - 1) (List.drop (1 : Nat) (splitL (32 : UInt8) s))) (2 : Int))).fst < 0) =
 false → (decide ((numT (at3 (List.take ((↑(splitL (32 : UInt8) s).length : Int).toNat - 1) (List.drop (1 : Nat) (splitL (32 : UInt8) s))) (2 : Int))).fst > 9) = true → ∃ (s_1 : RdS), splitL (32 : UInt8) s = splitL (32 :
 UInt8) s ∧ (↑k : Int) = (↑s_1.k : Int) ∧ IntKind.i64.wrap ((↑b : Int) + 1) = (↑s_1.b : Int) ∧ rdI s s_1 ∧ ((23 : Nat) - s_1.k) * 10 + ((2 : Nat) - s_1.b) * 2 + 1 < ((23 : Nat) - k) * 10 + ((2 : Nat) - b) * 2 ∧ True) ∧
 (decide ((numT (at3 (List.take ((↑(splitL (32 : UInt8) s).length : Int).toNat - 1) (List.drop (1 : Nat) (splitL (32 : UInt8) s))) (2 : Int))).fst > 9) = false → mayD.pre (Ins.mk (↑k : Int) (numT (at3 (List.take
 ((↑(splitL (32 : UInt8) s).length : Int).toNat - 1) (List.drop (1 : Nat) (splitL (32 : UInt8) s))) (0 : Int))).fst (numT (at3 (List.take ((↑(splitL (32 : UInt8) s).length : Int).toNat - 1) (List.drop (1 : Nat) (splitL
 (32 : UInt8) s))) (1 : Int))).fst (numT (at3 (List.take ((↑(splitL (32 : UInt8) s).length : Int).toNat - 1) (List.drop (1 : Nat) (splitL (32 : UInt8) s))) (2 : Int))).fst (0 : Int), ()) ∧ (mayB (Ins.mk (↑k : Int) (numT
 (at3 (List.take ((↑(splitL (32 : UInt8) s).length : Int).toNat - 1) (List.drop (1 : Nat) (splitL (32 : UInt8) s))) (0 : Int))).fst (numT (at3 (List.take ((↑(splitL (32 : UInt8) s).length : Int).toNat - 1) (List.drop (1 :
 Nat) (splitL (32 : UInt8) s))) (1 : Int))).fst (numT (at3 (List.take ((↑(splitL (32 : UInt8) s).length : Int).toNat - 1) (List.drop (1 : Nat) (splitL (32 : UInt8) s))) (2 : Int))).fst (0 : Int)) = true → (↑k : Int) =
 i.op ∧ (numT (at3 (List.take ((↑(splitL (32 : UInt8) s).length : Int).toNat - 1) (List.drop (1 : Nat) (splitL (32 : UInt8) s))) (0 : Int))).fst = i.a ∧ (numT (at3 (List.take ((↑(splitL (32 : UInt8) s).length : Int).toNat
 - 1) (List.drop (1 : Nat) (splitL (32 : UInt8) s))) (1 : Int))).fst = i.b ∧ (numT (at3 (List.take ((↑(splitL (32 : UInt8) s).length : Int).toNat - 1) (List.drop (1 : Nat) (splitL (32 : UInt8) s))) (2 : Int))).fst = i.c ∧
 (0 : Int) = i.n ∧ constA Value.nilIface = e ∧ True) ∧ (mayB (Ins.mk (↑k : Int) (numT (at3 (List.take ((↑(splitL (32 : UInt8) s).length : Int).toNat - 1) (List.drop (1 : Nat) (splitL (32 : UInt8) s))) (0 : Int))).fst
 (numT (at3 (List.take ((↑(splitL (32 : UInt8) s).length : Int).toNat - 1) (List.drop (1 : Nat) (splitL (32 : UInt8) s))) (1 : Int))).fst (numT (at3 (List.take ((↑(splitL (32 : UInt8) s).length : Int).toNat - 1)
 (List.drop (1 : Nat) (splitL (32 : UInt8) s))) (2 : Int))).fst (0 : Int)) = false → ∃ (s_1 : RdS), splitL (32 : UInt8) s = splitL (32 : UInt8) s ∧ (↑k : Int) = (↑s_1.k : Int) ∧ IntKind.i64.wrap ((↑b : Int) + 1) = (↑s_1.b
 : Int) ∧ rdI s s_1 ∧ ((23 : Nat) - s_1.k) * 10 + ((2 : Nat) - s_1.b) * 2 + 1 < ((23 : Nat) - k) * 10 + ((2 : Nat) - b) * 2 ∧ True)))))))))))) := by kernel_rfl
theorem rd_10c (s : List UInt8) (i : Ins) (e : AVal) (k b : Nat) : Go.Sy.Tree.holds (cutVC F (lookC l21) 600 Tryz.f21 b21 (rdF s i e) 10 (rdC10 s [97, 98, 110]) ⟨k, b⟩) = ( (((↑k : Int) == 13) = true → ((0 : Int) ≤ 1 ∧ (1
 : Int) ≤ (↑(splitL (32 : UInt8) s).length : Int) ∧ (↑(splitL (32 : UInt8) s).length : Int) ≤ (↑(splitL (32 : UInt8) s).length : Int)) ∧ ((0 : Int) ≤ 0 ∧ (0 : Int) < (↑(List.take ((↑(splitL (32 : UInt8) s).length :
 Int).toNat - 1) (List.drop (1 : Nat) (splitL (32 : UInt8) s))).length : Int)) ∧ nmD.pre (at3 (List.take ((↑(splitL (32 : UInt8) s).length : Int).toNat - 1) (List.drop (1 : Nat) (splitL (32 : UInt8) s))) (0 : Int), ()) ∧
 ((!(numT (at3 (List.take ((↑(splitL (32 : UInt8) s).length : Int).toNat - 1) (List.drop (1 : Nat) (splitL (32 : UInt8) s))) (0 : Int))).snd) = true → ∃ (s_1 : RdS), splitL (32 : UInt8) s = splitL (32 : UInt8) s ∧ (↑k :
 Int) = (↑s_1.k : Int) ∧ IntKind.i64.wrap ((↑b : Int) + 1) = (↑s_1.b : Int) ∧ rdI s s_1 ∧ ((23 : Nat) - s_1.k) * 10 + ((2 : Nat) - s_1.b) * 2 + 1 < ((23 : Nat) - k) * 10 + ((2 : Nat) - b) * 2 ∧ True) ∧ ((!(numT (at3
 (List.take ((↑(splitL (32 : UInt8) s).length : Int).toNat - 1) (List.drop (1 : Nat) (splitL (32 : UInt8) s))) (0 : Int))).snd) = false → (decide ((numT (at3 (List.take ((↑(splitL (32 : UInt8) s).length : Int).toNat - 1)
 (List.drop (1 : Nat) (splitL (32 : UInt8) s))) (0 : Int))).fst < 0) = true → ∃ (s_1 : RdS), splitL (32 : UInt8) s = splitL (32 : UInt8) s ∧ (↑k : Int) = (↑s_1.k : Int) ∧ IntKind.i64.wrap ((↑b : Int) + 1) = (↑s_1.b : Int)
 ∧ rdI s s_1 ∧ ((23 : Nat) - s_1.k) * 10 + ((2 : Nat) - s_1.b) * 2 + 1 < ((23 : Nat) - k) * 10 + ((2 : Nat) - b) * 2 ∧ True) ∧ (decide ((numT (at3 (List.take ((↑(splitL (32 : UInt8) s).length : Int).toNat - 1) (List.drop
 (1 : Nat) (splitL (32 : UInt8) s))) (0 : Int))).fst < 0) = false → (decide ((numT (at3 (List.take ((↑(splitL (32 : UInt8) s).length : Int).toNat - 1) (List.drop (1 : Nat) (splitL (32 : UInt8) s))) (0 : Int))).fst > 9) =
 true → ∃ (s_1 : RdS), splitL (32 : UInt8) s = splitL (32 : UInt8) s ∧ (↑k : Int) = (↑s_1.k : Int) ∧ IntKind.i64.wrap ((↑b : Int) + 1) = (↑s_1.b : Int) ∧ rdI s s_1 ∧ ((23 : Nat) - s_1.k) * 10 + ((2 : Nat) - s_1.b) * 2 + 1
 < ((23 : Nat) - k) * 10 + ((2 : Nat) - b) * 2 ∧ True) ∧ (decide ((numT (at3 (List.take ((↑(splitL (32 : UInt8) s).length : Int).toNat - 1) (List.drop (1 : Nat) (splitL (32 : UInt8) s))) (0 : Int))).fst > 9) = false → ((0
 : Int) ≤ 1 ∧ (1 : Int) < (↑(List.take ((↑(splitL (32 : UInt8) s).length : Int).toNat - 1) (List.drop (1 : Nat) (splitL (32 : UInt8) s))).length : Int)) ∧ nmD.pre (at3 (List.take ((↑(splitL (32 : UInt8) s).length :
 Int).toNat - 1) (List.drop (1 : Nat) (splitL (32 : UInt8) s))) (1 : Int), ()) ∧ ((!(numT (at3 (List.take ((↑(splitL (32 : UInt8) s).length : Int).toNat - 1) (List.drop (1 : Nat) (splitL (32 : UInt8) s))) (1 : Int))).snd)
 = true → ∃ (s_1 : RdS), splitL (32 : UInt8) s = splitL (32 : UInt8) s ∧ (↑k : Int) = (↑s_1.k : Int) ∧ IntKind.i64.wrap ((↑b : Int) + 1) = (↑s_1.b : Int) ∧ rdI s s_1 ∧ ((23 : Nat) - s_1.k) * 10 + ((2 : Nat) - s_1.b) * 2 +
 1 < ((23 : Nat) - k) * 10 + ((2 : Nat) - b) * 2 ∧ True) ∧ ((!(numT (at3 (List.take ((↑(splitL (32 : UInt8) s).length : Int).toNat - 1) (List.drop (1 : Nat) (splitL (32 : UInt8) s))) (1 : Int))).snd) = false → (decide
 ((numT (at3 (List.take ((↑(splitL (32 : UInt8) s).length : Int).toNat - 1) (List.drop (1 : Nat) (splitL (32 : UInt8) s))) (1 : Int))).fst < 0) = true → ∃ (s_1 : RdS), splitL (32 : UInt8) s = splitL (32 : UInt8) s ∧ (↑k :
 Int) = (↑s_1.k : Int) ∧ IntKind.i64.wrap ((↑b : Int) + 1) = (↑s_1.b : Int) ∧ rdI s s_1 ∧ ((23 : Nat) - s_1.k) * 10 + ((2 : Nat) - s_1.b) * 2 + 1 < ((23 : Nat) - k) * 10 + ((2 : Nat) - b) * 2 ∧ True) ∧ (decide ((numT (at3
 (List.take ((↑(splitL (32 : UInt8) s).length : Int).toNat - 1) (List.drop (1 : Nat) (splitL (32 : UInt8) s))) (1 : Int))).fst < 0) = false → (decide ((numT (at3 (List.take ((↑(splitL (32 : UInt8) s).length : Int).toNat -
 1) (List.drop (1 : Nat) (splitL (32 : UInt8) s))) (1 : Int))).fst > 9) = true → ∃ (s_1 : RdS), splitL (32 : UInt8) s = splitL (32 : UInt8) s ∧ (↑k : Int) = (↑s_1.k : Int) ∧ IntKind.i64.wrap ((↑b : Int) + 1) = (↑s_1.b :
 Int) ∧ rdI s s_1 ∧ ((23 : Nat) - s_1.k) * 10 + ((2 : Nat) - s_1.b) * 2 + 1 < ((23 : Nat) - k) * 10 + ((2 : Nat) - b) * 2 ∧ True) ∧ (decide ((numT (at3 (List.take ((↑(splitL (32 : UInt8) s).length : Int).toNat - 1)
 (List.drop (1 : Nat) (splitL (32 : UInt8) s))) (1 : Int))).fst > 9) = false → ((0 : Int) ≤ 2 ∧ (2 : Int) < (↑(List.take ((↑(splitL (32 : UInt8) s).length : Int).toNat - 1) (List.drop (1 : Nat) (splitL (32 : UInt8)
 s))).length : Int)) ∧ nmD.pre (at3 (List.take ((↑(splitL (32 : UInt8) s).length : Int).toNat - 1) (List.drop (1 : Nat) (splitL (32 : UInt8) s))) (2 : Int), ()) ∧ ((!(numT (at3 (List.take ((↑(splitL (32 : UInt8) s).length
 : Int).toNat - 1) (List.drop (1 : Nat) (splitL (32 : UInt8) s))) (2 : Int))).snd) = true → ∃ (s_1 : RdS), splitL (32 : UInt8) s = splitL (32 : UInt8) s ∧ (↑k : Int) = (↑s_1.k : Int) ∧ IntKind.i64.wrap ((↑b : Int) + 1) =
 (↑s_1.b : Int) ∧ rdI s s_1 ∧ ((23 : Nat) - s_1.k) * 10 + ((2 : Nat) - s_1.b) * 2 + 1 < ((23 : Nat) - k) * 10 + ((2 : Nat) - b) * 2 ∧ True) ∧ ((!(numT (at3 (List.take ((↑(splitL (32 : UInt8) s).length : Int).toNat - 1)
 (List.drop (1 : Nat) (splitL (32 : UInt8) s))) (2 : Int))).snd) = false → mayD.pre (Ins.mk (↑k : Int) (numT (at3 (List.take ((↑(splitL (32 : UInt8) s).length : Int).toNat - 1) (List.drop (1 : Nat) (splitL (32 : UInt8)
 s))) (0 : Int))).fst (numT (at3 (List.take ((↑(splitL (32 : UInt8) s).length : Int).toNat - 1) (List.drop (1 : Nat) (splitL (32 : UInt8) s))) (1 : Int))).fst (0 : Int) (numT (at3 (List.take ((↑(splitL (32 : UInt8)
 s).length : Int).toNat - 1) (List.drop (1 : Nat) (splitL (32 : UInt8) s))) (2 : Int))).fst, ()) ∧ (mayB (Ins.mk (↑k : Int) (numT (at3 (List.take ((↑(splitL (32 : UInt8) s).length : Int).toNat - 1) (List.drop (1 : Nat)
 (splitL (32 : UInt8) s))) (0 : Int))).fst (numT (at3 (List.take ((↑(splitL (32 : UInt8) s).length : Int).toNat - 1) (List.drop (1 : Nat) (splitL (32 : UInt8) s))) (1 : Int))).fst (0 : Int) (numT (at3 (List.take
 ((↑(splitL (32 : UInt8) s).length : Int).toNat - 1) (List.drop (1 : Nat) (splitL (32 : UInt8) s))) (2 : Int))).fst) = true → (↑k : Int) = i.op ∧ (numT (at3 (List.take ((↑(splitL (32 : UInt8) s).length : Int).toNat - 1)
 (List.drop (1 : Nat) (splitL (32 : UInt8) s))) (0 : Int))).fst = i.a ∧ (numT (at3 (List.take ((↑(splitL (32 : UInt8) s).length : Int).toNat - 1) (List.drop (1 : Nat) (splitL (32 : UInt8) s))) (1 : Int))).fst = i.b ∧ (0 :
 Int) = i.c ∧ (numT (at3 (List.take ((↑(splitL (32 : UInt8) s).length : Int).toNat - 1) (List.drop (1 : Nat) (splitL (32 : UInt8) s))) (2 : Int))).fst = i.n ∧ constA Value.nilIface = e ∧ True) ∧ (mayB (Ins.mk (↑k : Int)
 (numT (at3 (List.take ((↑(splitL (32 : UInt8) s).length : Int).toNat - 1) (List.drop (1 : Nat) (splitL (32 : UInt8) s))) (0 : Int))).fst (numT (at3 (List.take ((↑(splitL (32 : UInt8) s).length : Int).toNat - 1)
 (List.drop (1 : Nat) (splitL (32 : UInt8) s))) (1 : Int))).fst (0 : Int) (numT (at3 (List.take ((↑(splitL (32 : UInt8) s).length : Int).toNat - 1) (List.drop (1 : Nat) (splitL (32 : UInt8) s))) (2 : Int))).fst) = false →
 ∃ (s_1 : RdS), splitL (32 : UInt8) s = splitL (32 : UInt8) s ∧ (↑k : Int) = (↑s_1.k : Int) ∧ IntKind.i64.wrap ((↑b : Int) + 1) = (↑s_1.b : Int) ∧ rdI s s_1 ∧ ((23 : Nat) - s_1.k) * 10 + ((2 : Nat) - s_1.b) * 2 + 1 < ((23
 : Nat) - k) * 10 + ((2 : Nat) - b) * 2 ∧ True))))))))) ∧ (((↑k : Int) == 13) = false → ((0 : Int) ≤ 1 ∧ (1 : Int) ≤ (↑(splitL (32 : UInt8) s).length : Int) ∧ (↑(splitL (32 : UInt8) s).length : Int) ≤ (↑(splitL (32 :
 UInt8) s).length : Int)) ∧ ((0 : Int) ≤ 0 ∧ (0 : Int) < (↑(List.take ((↑(splitL (32 : UInt8) s).length : Int).toNat - 1) (List.drop (1 : Nat) (splitL (32 : UInt8) s))).length : Int)) ∧ nmD.pre (at3 (List.take ((↑(splitL
 (32 : UInt8) s).length : Int).toNat - 1) (List.drop (1 : Nat) (splitL (32 : UInt8) s))) (0 : Int), ()) ∧ ((!(numT (at3 (List.take ((↑(splitL (32 : UInt8) s).length : Int).toNat - 1) (List.drop (1 : Nat) (splitL (32 :
 UInt8) s))) (0 : Int))).snd) = true → ∃ (s_1 : RdS), splitL (32 : UInt8) s = splitL (32 : UInt8) s ∧ (↑k : Int) = (↑s_1.k : Int) ∧ IntKind.i64.wrap ((↑b : Int) + 1) = (↑s_1.b : Int) ∧ rdI s s_1 ∧ ((23 : Nat) - s_1.k) *
 10 + ((2 : Nat) - s_1.b) * 2 + 1 < ((23 : Nat) - k) * 10 + ((2 : Nat) - b) * 2 ∧ True) ∧ ((!(numT (at3 (List.take ((↑(splitL (32 : UInt8) s).length : Int).toNat - 1) (List.drop (1 : Nat) (splitL (32 : UInt8) s))) (0 :
 Int))).snd) = false → (decide ((numT (at3 (List.take ((↑(splitL (32 : UInt8) s).length : Int).toNat - 1) (List.drop (1 : Nat) (splitL (32 : UInt8) s))) (0 : Int))).fst < 0) = true → ∃ (s_1 : RdS), splitL (32 : UInt8) s =
 splitL (32 : UInt8) s ∧ (↑k : Int) = (↑s_1.k : Int) ∧ IntKind.i64.wrap ((↑b : Int) + 1) = (↑s_1.b : Int) ∧ rdI s s_1 ∧ ((23 : Nat) - s_1.k) * 10 + ((2 : Nat) - s_1.b) * 2 + 1 < ((23 : Nat) - k) * 10 + ((2 : Nat) - b) * 2
 ∧ True) ∧ (decide ((numT (at3 (List.take ((↑(splitL (32 : UInt8) s).length : Int).toNat - 1) (List.drop (1 : Nat) (splitL (32 : UInt8) s))) (0 : Int))).fst < 0) = false → (decide ((numT (at3 (List.take ((↑(splitL (32 :
 UInt8) s).length : Int).toNat - 1) (List.drop (1 : Nat) (splitL (32 : UInt8) s))) (0 : Int))).fst > 9) = true → ∃ (s_1 : RdS), splitL (32 : UInt8) s = splitL (32 : UInt8) s ∧ (↑k : Int) = (↑s_1.k : Int) ∧
 IntKind.i64.wrap ((↑b : Int) + 1) = (↑s_1.b : Int) ∧ rdI s s_1 ∧ ((23 : Nat) - s_1.k) * 10 + ((2 : Nat) - s_1.b) * 2 + 1 < ((23 : Nat) - k) * 10 + ((2 : Nat) - b) * 2 ∧ True) ∧ (decide ((numT (at3 (List.take ((↑(splitL
 (32 : UInt8) s).length : Int).toNat - 1) (List.drop (1 : Nat) (splitL (32 : UInt8) s))) (0 : Int))).fst > 9) = false → ((0 : Int) ≤ 1 ∧ (1 : Int) < (↑(List.take ((↑(splitL (32 : UInt8) s).length : Int).toNat - 1)
 (List.drop (1 : Nat) (splitL (32 : UInt8) s))).length : Int)) ∧ nmD.pre (at3 (List.take ((↑(splitL (32 : UInt8) s).length : Int).toNat - 1) (List.drop (1 : Nat) (splitL (32 : UInt8) s))) (1 : Int), ()) ∧ ((!(numT (at3
 (List.take ((↑(splitL (32 : UInt8) s).length : Int).toNat - 1) (List.drop (1 : Nat) (splitL (32 : UInt8) s))) (1 : Int))).snd) = true → ∃ (s_1 : RdS), splitL (32 : UInt8) s = splitL (32 : UInt8) s ∧ (↑k : Int) = (↑s_1.k
 : Int) ∧ IntKind.i64.wrap ((↑b : Int) + 1) = (↑s_1.b : Int) ∧ rdI s s_1 ∧ ((23 : Nat) - s_1.k) * 10 + ((2 : Nat) - s_1.b) * 2 + 1 < ((23 : Nat) - k) * 10 + ((2 : Nat) - b) * 2 ∧ True) ∧ ((!(numT (at3 (List.take
 ((↑(splitL (32 : UInt8) s).length : Int).toNat - 1) (List.drop (1 : Nat) (splitL (32 : UInt8) s))) (1 : Int))).snd) = false → (decide ((numT (at3 (List.take ((↑(splitL (32 : UInt8) s).length : Int).toNat - 1) (List.drop
 (1 : Nat) (splitL (32 : UInt8) s))) (1 : Int))).fst < 0) = true → ∃ (s_1 : RdS), splitL (32 : UInt8) s = splitL (32 : UInt8) s ∧ (↑k : Int) = (↑s_1.k : Int) ∧ IntKind.i64.wrap ((↑b : Int) + 1) = (↑s_1.b : Int) ∧ rdI s
 s_1 ∧ ((23 : Nat) - s_1.k) * 10 + ((2 : Nat) - s_1.b) * 2 + 1 < ((23 : Nat) - k) * 10 + ((2 : Nat) - b) * 2 ∧ True) ∧ (decide ((numT (at3 (List.take ((↑(splitL (32 : UInt8) s).length : Int).toNat - 1) (List.drop (1 :
 Nat) (splitL (32 : UInt8) s))) (1 : Int))).fst < 0) = false → (decide ((numT (at3 (List.take ((↑(splitL (32 : UInt8) s).length : Int).toNat - 1) (List.drop (1 : Nat) (splitL (32 : UInt8) s))) (1 : Int))).fst > 9) = true
 → ∃ (s_1 : RdS), splitL (32 : UInt8) s = splitL (32 : UInt8) s ∧ (↑k : Int) = (↑s_1.k : Int) ∧ IntKind.i64.wrap ((↑b : Int) + 1) = (↑s_1.b : Int) ∧ rdI s s_1 ∧ ((23 : Nat) - s_1.k) * 10 + ((2 : Nat) - s_1.b) * 2 + 1 <
 ((23 : Nat) - k) * 10 + ((2 : Nat) - b) * 2 ∧ True) ∧ (decide ((numT (at3 (List.take ((↑(splitL (32 : UInt8) s).length : Int).toNat - 1) (List.drop (1 : Nat) (splitL (32 : UInt8) s))) (1 : Int))).fst > 9) = false → ((0 :
 Int) ≤ 2 ∧ (2 : Int) < (↑(List.take ((↑(splitL (32 : UInt8) s).length : Int).toNat - 1) (List.drop (1 : Nat) (splitL (32 : UInt8) s))).length : Int)) ∧ nmD.pre (at3 (List.take ((↑(splitL (32 : UInt8) s).length :
 Int).toNat - 1) (List.drop (1 : Nat) (splitL (32 : UInt8) s))) (2 : Int), ()) ∧ ((!(numT (at3 (List.take ((↑(splitL (32 : UInt8) s).length : Int).toNat - 1) (List.drop (1 : Nat) (splitL (32 : UInt8) s))) (2 : Int))).snd)
 = true → ∃ (s_1 : RdS), splitL (32 : UInt8) s = splitL (32 : UInt8) s ∧ (↑k : Int) = (↑s_1.k : Int) ∧ IntKind.i64.wrap ((↑b : Int) + 1) = (↑s_1.b : Int) ∧ rdI s s_1 ∧ ((23 : Nat) - s_1.k) * 10 + ((2 : Nat) - s_1.b) * 2 +
 1 < ((23 : Nat) - k) * 10 + ((2 : Nat) - b) * 2 ∧ True) ∧ ((!(numT (at3 (List.take ((↑(splitL (32 : UInt8) s).length : Int).toNat - 1) (List.drop (1 : Nat) (splitL (32 : UInt8) s))) (2 : Int))).snd) = false → mayD.pre
 (Ins.mk (↑k : Int) (numT (at3 (List.take ((↑(splitL (32 : UInt8) s).length : Int).toNat - 1) (List.drop (1 : Nat) (splitL (32 : UInt8) s))) (0 : Int))).fst (numT (at3 (List.take ((↑(splitL (32 : UInt8) s).length :
 Int).toNat - 1) (List.drop (1 : Nat) (splitL (32 : UInt8) s))) (1 : Int))).fst (0 : Int) (numT (at3 (List.take ((↑(splitL (32 : UInt8) s).length : Int).toNat - 1) (List.drop (1 : Nat) (splitL (32 : UInt8) s))) (2 :
 Int))).fst, ()) ∧ (mayB (Ins.mk (↑k : Int) (numT (at3 (List.take ((↑(splitL (32 : UInt8) s).length : Int).toNat - 1) (List.drop (1 : Nat) (splitL (32 : UInt8) s))) (0 : Int))).fst (numT (at3 (List.take ((↑(splitL (32 :
 UInt8) s).length : Int).toNat - 1) (List.drop (1 : Nat) (splitL (32 : UInt8) s))) (1 : Int))).fst (0 : Int) (numT (at3 (List.take ((↑(splitL (32 : UInt8) s).length : Int).toNat - 1) (List.drop (1 : Nat) (splitL (32 :
 UInt8) s))) (2 : Int))).fst) = true → (↑k : Int) = i.op ∧ (numT (at3 (List.take ((↑(splitL (32 : UInt8) s).length : Int).toNat - 1) (List.drop (1 : Nat) (splitL (32 : UInt8) s))) (0 : Int))).fst = i.a ∧ (numT (at3
 (List.take ((↑(splitL (32 : UInt8) s).length : Int).toNat - 1) (List.drop (1 : Nat) (splitL (32 : UInt8) s))) (1 : Int))).fst = i.b ∧ (0 : Int) = i.c ∧ (numT (at3 (List.take ((↑(splitL (32 : UInt8) s).length : Int).toNat
 - 1) (List.drop (1 : Nat) (splitL (32 : UInt8) s))) (2 : Int))).fst = i.n ∧ constA Value.nilIface = e ∧ True) ∧ (mayB (Ins.mk (↑k : Int) (numT (at3 (List.take ((↑(splitL (32 : UInt8) s).length : Int).toNat - 1)
 (List.drop (1 : Nat) (splitL (32 : UInt8) s))) (0 : Int))).fst (numT (at3 (List.take ((↑(splitL (32 : UInt8) s).length : Int).toNat - 1) (List.drop (1 : Nat) (splitL (32 : UInt8) s))) (1 : Int))).fst (0 : Int) (numT (at3
 (List.take ((↑(splitL (32 : UInt8) s).length : Int).toNat - 1) (List.drop (1 : Nat) (splitL (32 : UInt8) s))) (2 : Int))).fst) = false → ∃ (s_1 : RdS), splitL (32 : UInt8) s = splitL (32 : UInt8) s ∧ (↑k : Int) = (↑s_1.k
 : Int) ∧ IntKind.i64.wrap ((↑b : Int) + 1) = (↑s_1.b : Int) ∧ rdI s s_1 ∧ ((23 : Nat) - s_1.k) * 10 + ((2 : Nat) - s_1.b) * 2 + 1 < ((23 : Nat) - k) * 10 + ((2 : Nat) - b) * 2 ∧ True)))))))))) := by kernel_rfl
theorem rd_10d (s : List UInt8) (i : Ins) (e : AVal) (k b : Nat) : Go.Sy.Tree.holds (cutVC F (lookC l21) 600 Tryz.f21 b21 (rdF s i e) 10 (rdC10 s [98, 110]) ⟨k, b⟩) = ( (((↑k : Int) == 13) = true → ((0 : Int) ≤ 1 ∧ (1 :
 Int) ≤ (↑(splitL (32 : UInt8) s).length : Int) ∧ (↑(splitL (32 : UInt8) s).length : Int) ≤ (↑(splitL (32 : UInt8) s).length : Int)) ∧ ((0 : Int) ≤ 0 ∧ (0 : Int) < (↑(List.take ((↑(splitL (32 : UInt8) s).length :
 Int).toNat - 1) (List.drop (1 : Nat) (splitL (32 : UInt8) s))).length : Int)) ∧ nmD.pre (at3 (List.take ((↑(splitL (32 : UInt8) s).length : Int).toNat - 1) (List.drop (1 : Nat) (splitL (32 : UInt8) s))) (0 : Int), ()) ∧
 ((!(numT (at3 (List.take ((↑(splitL (32 : UInt8) s).length : Int).toNat - 1) (List.drop (1 : Nat) (splitL (32 : UInt8) s))) (0 : Int))).snd) = true → ∃ (s_1 : RdS), splitL (32 : UInt8) s = splitL (32 : UInt8) s ∧ (↑k :
 Int) = (↑s_1.k : Int) ∧ IntKind.i64.wrap ((↑b : Int) + 1) = (↑s_1.b : Int) ∧ rdI s s_1 ∧ ((23 : Nat) - s_1.k) * 10 + ((2 : Nat) - s_1.b) * 2 + 1 < ((23 : Nat) - k) * 10 + ((2 : Nat) - b) * 2 ∧ True) ∧ ((!(numT (at3
 (List.take ((↑(splitL (32 : UInt8) s).length : Int).toNat - 1) (List.drop (1 : Nat) (splitL (32 : UInt8) s))) (0 : Int))).snd) = false → (decide ((numT (at3 (List.take ((↑(splitL (32 : UInt8) s).length : Int).toNat - 1)
 (List.drop (1 : Nat) (splitL (32 : UInt8) s))) (0 : Int))).fst < 0) = true → ∃ (s_1 : RdS), splitL (32 : UInt8) s = splitL (32 : UInt8) s ∧ (↑k : Int) = (↑s_1.k : Int) ∧ IntKind.i64.wrap ((↑b : Int) + 1) = (↑s_1.b : Int)
 ∧ rdI s s_1 ∧ ((23 : Nat) - s_1.k) * 10 + ((2 : Nat) - s_1.b) * 2 + 1 < ((23 : Nat) - k) * 10 + ((2 : Nat) - b) * 2 ∧ True) ∧ (decide ((numT (at3 (List.take ((↑(splitL (32 : UInt8) s).length : Int).toNat - 1) (List.drop
 (1 : Nat) (splitL (32 : UInt8) s))) (0 : Int))).fst < 0) = false → (decide ((numT (at3 (List.take ((↑(splitL (32 : UInt8) s).length : Int).toNat - 1) (List.drop (1 : Nat) (splitL (32 : UInt8) s))) (0 : Int))).fst > 9) =
 true → ∃ (s_1 : RdS), splitL (32 : UInt8) s = splitL (32 : UInt8) s ∧ (↑k : Int) = (↑s_1.k : Int) ∧ IntKind.i64.wrap ((↑b : Int) + 1) = (↑s_1.b : Int) ∧ rdI s s_1 ∧ ((23 : Nat) - s_1.k) * 10 + ((2 : Nat) - s_1.b) * 2 + 1
 < ((23 : Nat) - k) * 10 + ((2 : Nat) - b) * 2 ∧ True) ∧ (decide ((numT (at3 (List.take ((↑(splitL (32 : UInt8) s).length : Int).toNat - 1) (List.drop (1 : Nat) (splitL (32 : UInt8) s))) (0 : Int))).fst > 9) = false → ((0
 : Int) ≤ 1 ∧ (1 : Int) < (↑(List.take ((↑(splitL (32 : UInt8) s).length : Int).toNat - 1) (List.drop (1 : Nat) (splitL (32 : UInt8) s))).length : Int)) ∧ nmD.pre (at3 (List.take ((↑(splitL (32 : UInt8) s).length :
 Int).toNat - 1) (List.drop (1 : Nat) (splitL (32 : UInt8) s))) (1 : Int), ()) ∧ ((!(numT (at3 (List.take ((↑(splitL (32 : UInt8) s).length : Int).toNat - 1) (List.drop (1 : Nat) (splitL (32 : UInt8) s))) (1 : Int))).snd)
 = true → ∃ (s_1 : RdS), splitL (32 : UInt8) s = splitL (32 : UInt8) s ∧ (↑k : Int) = (↑s_1.k : Int) ∧ IntKind.i64.wrap ((↑b : Int) + 1) = (↑s_1.b : Int) ∧ rdI s s_1 ∧ ((23 : Nat) - s_1.k) * 10 + ((2 : Nat) - s_1.b) * 2 +
 1 < ((23 : Nat) - k) * 10 + ((2 : Nat) - b) * 2 ∧ True) ∧ ((!(numT (at3 (List.take ((↑(splitL (32 : UInt8) s).length : Int).toNat - 1) (List.drop (1 : Nat) (splitL (32 : UInt8) s))) (1 : Int))).snd) = false → mayD.pre
 (Ins.mk (↑k : Int) (0 : Int) (numT (at3 (List.take ((↑(splitL (32 : UInt8) s).length : Int).toNat - 1) (List.drop (1 : Nat) (splitL (32 : UInt8) s))) (0 : Int))).fst (0 : Int) (numT (at3 (List.take ((↑(splitL (32 :
 UInt8) s).length : Int).toNat - 1) (List.drop (1 : Nat) (splitL (32 : UInt8) s))) (1 : Int))).fst, ()) ∧ (mayB (Ins.mk (↑k : Int) (0 : Int) (numT (at3 (List.take ((↑(splitL (32 : UInt8) s).length : Int).toNat - 1)
 (List.drop (1 : Nat) (splitL (32 : UInt8) s))) (0 : Int))).fst (0 : Int) (numT (at3 (List.take ((↑(splitL (32 : UInt8) s).length : Int).toNat - 1) (List.drop (1 : Nat) (splitL (32 : UInt8) s))) (1 : Int))).fst) = true →
 (↑k : Int) = i.op ∧ (0 : Int) = i.a ∧ (numT (at3 (List.take ((↑(splitL (32 : UInt8) s).length : Int).toNat - 1) (List.drop (1 : Nat) (splitL (32 : UInt8) s))) (0 : Int))).fst = i.b ∧ (0 : Int) = i.c ∧ (numT (at3
 (List.take ((↑(splitL (32 : UInt8) s).length : Int).toNat - 1) (List.drop (1 : Nat) (splitL (32 : UInt8) s))) (1 : Int))).fst = i.n ∧ constA Value.nilIface = e ∧ True) ∧ (mayB (Ins.mk (↑k : Int) (0 : Int) (numT (at3
 (List.take ((↑(splitL (32 : UInt8) s).length : Int).toNat - 1) (List.drop (1 : Nat) (splitL (32 : UInt8) s))) (0 : Int))).fst (0 : Int) (numT (at3 (List.take ((↑(splitL (32 : UInt8) s).length : Int).toNat - 1) (List.drop
 (1 : Nat) (splitL (32 : UInt8) s))) (1 : Int))).fst) = false → ∃ (s_1 : RdS), splitL (32 : UInt8) s = splitL (32 : UInt8) s ∧ (↑k : Int) = (↑s_1.k : Int) ∧ IntKind.i64.wrap ((↑b : Int) + 1) = (↑s_1.b : Int) ∧ rdI s s_1 ∧
 ((23 : Nat) - s_1.k) * 10 + ((2 : Nat) - s_1.b) * 2 + 1 < ((23 : Nat) - k) * 10 + ((2 : Nat) - b) * 2 ∧ True)))))) ∧ (((↑k : Int) == 13) = false → ((0 : Int) ≤ 1 ∧ (1 : Int) ≤ (↑(splitL (32 : UInt8) s).length : Int) ∧
 (↑(splitL (32 : UInt8) s).length : Int) ≤ (↑(splitL (32 : UInt8) s).length : Int)) ∧ ((0 : Int) ≤ 0 ∧ (0 : Int) < (↑(List.take ((↑(splitL (32 : UInt8) s).length : Int).toNat - 1) (List.drop (1 : Nat) (splitL (32 : UInt8)
 s))).length : Int)) ∧ nmD.pre (at3 (List.take ((↑(splitL (32 : UInt8) s).length : Int).toNat - 1) (List.drop (1 : Nat) (splitL (32 : UInt8) s))) (0 : Int), ()) ∧ ((!(numT (at3 (List.take ((↑(splitL (32 : UInt8) s).length
 : Int).toNat - 1) (List.drop (1 : Nat) (splitL (32 : UInt8) s))) (0 : Int))).snd) = true → ∃ (s_1 : RdS), splitL (32 : UInt8) s = splitL (32 : UInt8) s ∧ (↑k : Int) = (↑s_1.k : Int) ∧ IntKind.i64.wrap ((↑b : Int) + 1) =
 (↑s_1.b : Int) ∧ rdI s s_1 ∧ ((23 : Nat) - s_1.k) * 10 + ((2 : Nat) - s_1.b) * 2 + 1 < ((23 : Nat) - k) * 10 + ((2 : Nat) - b) * 2 ∧ True) ∧ ((!(numT (at3 (List.take ((↑(splitL (32 : UInt8) s).length : Int).toNat - 1)
 (List.drop (1 : Nat) (splitL (32 : UInt8) s))) (0 : Int))).snd) = false → (decide ((numT (at3 (List.take ((↑(splitL (32 : UInt8) s).length : Int).toNat - 1) (List.drop (1 : Nat) (splitL (32 : UInt8) s))) (0 : Int))).fst
 < 0) = true → ∃ (s_1 : RdS), splitL (32 : UInt8) s = splitL (32 : UInt8) s ∧ (↑k : Int) = (↑s_1.k : Int) ∧ IntKind.i64.wrap ((↑b : Int) + 1) = (↑s_1.b : Int) ∧ rdI s s_1 ∧ ((23 : Nat) - s_1.k) * 10 + ((2 : Nat) - s_1.b)
 * 2 + 1 < ((23 : Nat) - k) * 10 + ((2 : Nat) - b) * 2 ∧ True) ∧ (decide ((numT (at3 (List.take ((↑(splitL (32 : UInt8) s).length : Int).toNat - 1) (List.drop (1 : Nat) (splitL (32 : UInt8) s))) (0 : Int))).fst < 0) =
 false → (decide ((numT (at3 (List.take ((↑(splitL (32 : UInt8) s).length : Int).toNat - 1) (List.drop (1 : Nat) (splitL (32 : UInt8) s))) (0 : Int))).fst > 9) = true → ∃ (s_1 : RdS), splitL (32 : UInt8) s = splitL (32 :
 UInt8) s ∧ (↑k : Int) = (↑s_1.k : Int) ∧ IntKind.i64.wrap ((↑b : Int) + 1) = (↑s_1.b : Int) ∧ rdI s s_1 ∧ ((23 : Nat) - s_1.k) * 10 + ((2 : Nat) - s_1.b) * 2 + 1 < ((23 : Nat) - k) * 10 + ((2 : Nat) - b) * 2 ∧ True) ∧
 (decide ((numT (at3 (List.take ((↑(splitL (32 : UInt8) s).length : Int).toNat - 1) (List.drop (1 : Nat) (splitL (32 : UInt8) s))) (0 : Int))).fst > 9) = false → ((0 : Int) ≤ 1 ∧ (1 : Int) < (↑(List.take ((↑(splitL (32 :
 UInt8) s).length : Int).toNat - 1) (List.drop (1 : Nat) (splitL (32 : UInt8) s))).length : Int)) ∧ nmD.pre (at3 (List.take ((↑(splitL (32 : UInt8) s).length : Int).toNat - 1) (List.drop (1 : Nat) (splitL (32 : UInt8)
 s))) (1 : Int), ()) ∧ ((!(numT (at3 (List.take ((↑(splitL (32 : UInt8) s).length : Int).toNat - 1) (List.drop (1 : Nat) (splitL (32 : UInt8) s))) (1 : Int))).snd) = true → ∃ (s_1 : RdS), splitL (32 : UInt8) s = splitL
 (32 : UInt8) s ∧ (↑k : Int) = (↑s_1.k : Int) ∧ IntKind.i64.wrap ((↑b : Int) + 1) = (↑s_1.b : Int) ∧ rdI s s_1 ∧ ((23 : Nat) - s_1.k) * 10 + ((2 : Nat) - s_1.b) * 2 + 1 < ((23 : Nat) - k) * 10 + ((2 : Nat) - b) * 2 ∧
 True) ∧ ((!(numT (at3 (List.take ((↑(splitL (32 : UInt8) s).length : Int).toNat - 1) (List.drop (1 : Nat) (splitL (32 : UInt8) s))) (1 : Int))).snd) = false → mayD.pre (Ins.mk (↑k : Int) (0 : Int) (numT (at3 (List.take
 ((↑(splitL (32 : UInt8) s).length : Int).toNat - 1) (List.drop (1 : Nat) (splitL (32 : UInt8) s))) (0 : Int))).fst (0 : Int) (numT (at3 (List.take ((↑(splitL (32 : UInt8) s).length : Int).toNat - 1) (List.drop (1 : Nat)
 (splitL (32 : UInt8) s))) (1 : Int))).fst, ()) ∧ (mayB (Ins.mk (↑k : Int) (0 : Int) (numT (at3 (List.take ((↑(splitL (32 : UInt8) s).length : Int).toNat - 1) (List.drop (1 : Nat) (splitL (32 : UInt8) s))) (0 : Int))).fst
 (0 : Int) (numT (at3 (List.take ((↑(splitL (32 : UInt8) s).length : Int).toNat - 1) (List.drop (1 : Nat) (splitL (32 : UInt8) s))) (1 : Int))).fst) = true → (↑k : Int) = i.op ∧ (0 : Int) = i.a ∧ (numT (at3 (List.take
 ((↑(splitL (32 : UInt8) s).length : Int).toNat - 1) (List.drop (1 : Nat) (splitL (32 : UInt8) s))) (0 : Int))).fst = i.b ∧ (0 : Int) = i.c ∧ (numT (at3 (List.take ((↑(splitL (32 : UInt8) s).length : Int).toNat - 1)
 (List.drop (1 : Nat) (splitL (32 : UInt8) s))) (1 : Int))).fst = i.n ∧ constA Value.nilIface = e ∧ True) ∧ (mayB (Ins.mk (↑k : Int) (0 : Int) (numT (at3 (List.take ((↑(splitL (32 : UInt8) s).length : Int).toNat - 1)
 (List.drop (1 : Nat) (splitL (32 : UInt8) s))) (0 : Int))).fst (0 : Int) (numT (at3 (List.take ((↑(splitL (32 : UInt8) s).length : Int).toNat - 1) (List.drop (1 : Nat) (splitL (32 : UInt8) s))) (1 : Int))).fst) = false →
 ∃ (s_1 : RdS), splitL (32 : UInt8) s = splitL (32 : UInt8) s ∧ (↑k : Int) = (↑s_1.k : Int) ∧ IntKind.i64.wrap ((↑b : Int) + 1) = (↑s_1.b : Int) ∧ rdI s s_1 ∧ ((23 : Nat) - s_1.k) * 10 + ((2 : Nat) - s_1.b) * 2 + 1 < ((23
 : Nat) - k) * 10 + ((2 : Nat) - b) * 2 ∧ True))))))) := by kernel_rfl
theorem rd_10e (s : List UInt8) (i : Ins) (e : AVal) (k b : Nat) : Go.Sy.Tree.holds (cutVC F (lookC l21) 600 Tryz.f21 b21 (rdF s i e) 10 (rdC10 s [97]) ⟨k, b⟩) = ( (((↑k : Int) == 13) = true → ((0 : Int) ≤ 1 ∧ (1 : Int) ≤
 (↑(splitL (32 : UInt8) s).length : Int) ∧ (↑(splitL (32 : UInt8) s).length : Int) ≤ (↑(splitL (32 : UInt8) s).length : Int)) ∧ ((0 : Int) ≤ 0 ∧ (0 : Int) < (↑(List.take ((↑(splitL (32 : UInt8) s).length : Int).toNat - 1)
 (List.drop (1 : Nat) (splitL (32 : UInt8) s))).length : Int)) ∧ nmD.pre (at3 (List.take ((↑(splitL (32 : UInt8) s).length : Int).toNat - 1) (List.drop (1 : Nat) (splitL (32 : UInt8) s))) (0 : Int), ()) ∧ ((!(numT (at3
 (List.take ((↑(splitL (32 : UInt8) s).length : Int).toNat - 1) (List.drop (1 : Nat) (splitL (32 : UInt8) s))) (0 : Int))).snd) = true → ∃ (s_1 : RdS), splitL (32 : UInt8) s = splitL (32 : UInt8) s ∧ (↑k : Int) = (↑s_1.k
 : Int) ∧ IntKind.i64.wrap ((↑b : Int) + 1) = (↑s_1.b : Int) ∧ rdI s s_1 ∧ ((23 : Nat) - s_1.k) * 10 + ((2 : Nat) - s_1.b) * 2 + 1 < ((23 : Nat) - k) * 10 + ((2 : Nat) - b) * 2 ∧ True) ∧ ((!(numT (at3 (List.take
 ((↑(splitL (32 : UInt8) s).length : Int).toNat - 1) (List.drop (1 : Nat) (splitL (32 : UInt8) s))) (0 : Int))).snd) = false → (decide ((numT (at3 (List.take ((↑(splitL (32 : UInt8) s).length : Int).toNat - 1) (List.drop
 (1 : Nat) (splitL (32 : UInt8) s))) (0 : Int))).fst < 0) = true → ∃ (s_1 : RdS), splitL (32 : UInt8) s = splitL (32 : UInt8) s ∧ (↑k : Int) = (↑s_1.k : Int) ∧ IntKind.i64.wrap ((↑b : Int) + 1) = (↑s_1.b : Int) ∧ rdI s
 s_1 ∧ ((23 : Nat) - s_1.k) * 10 + ((2 : Nat) - s_1.b) * 2 + 1 < ((23 : Nat) - k) * 10 + ((2 : Nat) - b) * 2 ∧ True) ∧ (decide ((numT (at3 (List.take ((↑(splitL (32 : UInt8) s).length : Int).toNat - 1) (List.drop (1 :
 Nat) (splitL (32 : UInt8) s))) (0 : Int))).fst < 0) = false → (decide ((numT (at3 (List.take ((↑(splitL (32 : UInt8) s).length : Int).toNat - 1) (List.drop (1 : Nat) (splitL (32 : UInt8) s))) (0 : Int))).fst > 9) = true
 → ∃ (s_1 : RdS), splitL (32 : UInt8) s = splitL (32 : UInt8) s ∧ (↑k : Int) = (↑s_1.k : Int) ∧ IntKind.i64.wrap ((↑b : Int) + 1) = (↑s_1.b : Int) ∧ rdI s s_1 ∧ ((23 : Nat) - s_1.k) * 10 + ((2 : Nat) - s_1.b) * 2 + 1 <
 ((23 : Nat) - k) * 10 + ((2 : Nat) - b) * 2 ∧ True) ∧ (decide ((numT (at3 (List.take ((↑(splitL (32 : UInt8) s).length : Int).toNat - 1) (List.drop (1 : Nat) (splitL (32 : UInt8) s))) (0 : Int))).fst > 9) = false →
 mayD.pre (Ins.mk (↑k : Int) (numT (at3 (List.take ((↑(splitL (32 : UInt8) s).length : Int).toNat - 1) (List.drop (1 : Nat) (splitL (32 : UInt8) s))) (0 : Int))).fst (↑b : Int) (0 : Int) (0 : Int), ()) ∧ (mayB (Ins.mk (↑k
 : Int) (numT (at3 (List.take ((↑(splitL (32 : UInt8) s).length : Int).toNat - 1) (List.drop (1 : Nat) (splitL (32 : UInt8) s))) (0 : Int))).fst (↑b : Int) (0 : Int) (0 : Int)) = true → (↑k : Int) = i.op ∧ (numT (at3
 (List.take ((↑(splitL (32 : UInt8) s).length : Int).toNat - 1) (List.drop (1 : Nat) (splitL (32 : UInt8) s))) (0 : Int))).fst = i.a ∧ (↑b : Int) = i.b ∧ (0 : Int) = i.c ∧ (0 : Int) = i.n ∧ constA Value.nilIface = e ∧
 True) ∧ (mayB (Ins.mk (↑k : Int) (numT (at3 (List.take ((↑(splitL (32 : UInt8) s).length : Int).toNat - 1) (List.drop (1 : Nat) (splitL (32 : UInt8) s))) (0 : Int))).fst (↑b : Int) (0 : Int) (0 : Int)) = false → ∃ (s_1 :
 RdS), splitL (32 : UInt8) s = splitL (32 : UInt8) s ∧ (↑k : Int) = (↑s_1.k : Int) ∧ IntKind.i64.wrap ((↑b : Int) + 1) = (↑s_1.b : Int) ∧ rdI s s_1 ∧ ((23 : Nat) - s_1.k) * 10 + ((2 : Nat) - s_1.b) * 2 + 1 < ((23 : Nat) -
 k) * 10 + ((2 : Nat) - b) * 2 ∧ True))))) ∧ (((↑k : Int) == 13) = false → ((0 : Int) ≤ 1 ∧ (1 : Int) ≤ (↑(splitL (32 : UInt8) s).length : Int) ∧ (↑(splitL (32 : UInt8) s).length : Int) ≤ (↑(splitL (32 : UInt8) s).length
 : Int)) ∧ ((0 : Int) ≤ 0 ∧ (0 : Int) < (↑(List.take ((↑(splitL (32 : UInt8) s).length : Int).toNat - 1) (List.drop (1 : Nat) (splitL (32 : UInt8) s))).length : Int)) ∧ nmD.pre (at3 (List.take ((↑(splitL (32 : UInt8)
 s).length : Int).toNat - 1) (List.drop (1 : Nat) (splitL (32 : UInt8) s))) (0 : Int), ()) ∧ ((!(numT (at3 (List.take ((↑(splitL (32 : UInt8) s).length : Int).toNat - 1) (List.drop (1 : Nat) (splitL (32 : UInt8) s))) (0 :
 Int))).snd) = true → ∃ (s_1 : RdS), splitL (32 : UInt8) s = splitL (32 : UInt8) s ∧ (↑k : Int) = (↑s_1.k : Int) ∧ IntKind.i64.wrap ((↑b : Int) + 1) = (↑s_1.b : Int) ∧ rdI s s_1 ∧ ((23 : Nat) - s_1.k) * 10 + ((2 : Nat) -
 s_1.b) * 2 + 1 < ((23 : Nat) - k) * 10 + ((2 : Nat) - b) * 2 ∧ True) ∧ ((!(numT (at3 (List.take ((↑(splitL (32 : UInt8) s).length : Int).toNat - 1) (List.drop (1 : Nat) (splitL (32 : UInt8) s))) (0 : Int))).snd) = false
 → (decide ((numT (at3 (List.take ((↑(splitL (32 : UInt8) s).length : Int).toNat - 1) (List.drop (1 : Nat) (splitL (32 : UInt8) s))) (0 : Int))).fst < 0) = true → ∃ (s_1 : RdS), splitL (32 : UInt8) s = splitL (32 : UInt8)
 s ∧ (↑k : Int) = (↑s_1.k : Int) ∧ IntKind.i64.wrap ((↑b : Int) + 1) = (↑s_1.b : Int) ∧ rdI s s_1 ∧ ((23 : Nat) - s_1.k) * 10 + ((2 : Nat) - s_1.b) * 2 + 1 < ((23 : Nat) - k) * 10 + ((2 : Nat) - b) * 2 ∧ True) ∧ (decide
 ((numT (at3 (List.take ((↑(splitL (32 : UInt8) s).length : Int).toNat - 1) (List.drop (1 : Nat) (splitL (32 : UInt8) s))) (0 : Int))).fst < 0) = false → (decide ((numT (at3 (List.take ((↑(splitL (32 : UInt8) s).length :
 Int).toNat - 1) (List.drop (1 : Nat) (splitL (32 : UInt8) s))) (0 : Int))).fst > 9) = true → ∃ (s_1 : RdS), splitL (32 : UInt8) s = splitL (32 : UInt8) s ∧ (↑k : Int) = (↑s_1.k : Int) ∧ IntKind.i64.wrap ((↑b : Int) + 1)
 = (↑s_1.b : Int) ∧ rdI s s_1 ∧ ((23 : Nat) - s_1.k) * 10 + ((2 : Nat) - s_1.b) * 2 + 1 < ((23 : Nat) - k) * 10 + ((2 : Nat) - b) * 2 ∧ True) ∧ (decide ((numT (at3 (List.take ((↑(splitL (32 : UInt8) s).length : Int).toNat
 - 1) (List.drop (1 : Nat) (splitL (32 : UInt8) s))) (0 : Int))).fst > 9) = false → mayD.pre (Ins.mk (↑k : Int) (numT (at3 (List.take ((↑(splitL (32 : UInt8) s).length : Int).toNat - 1) (List.drop (1 : Nat) (splitL (32 :
 UInt8) s))) (0 : Int))).fst (0 : Int) (0 : Int) (0 : Int), ()) ∧ (mayB (Ins.mk (↑k : Int) (numT (at3 (List.take ((↑(splitL (32 : UInt8) s).length : Int).toNat - 1) (List.drop (1 : Nat) (splitL (32 : UInt8) s))) (0 :
 Int))).fst (0 : Int) (0 : Int) (0 : Int)) = true → (↑k : Int) = i.op ∧ (numT (at3 (List.take ((↑(splitL (32 : UInt8) s).length : Int).toNat - 1) (List.drop (1 : Nat) (splitL (32 : UInt8) s))) (0 : Int))).fst = i.a ∧ (0 :
 Int) = i.b ∧ (0 : Int) = i.c ∧ (0 : Int) = i.n ∧ constA Value.nilIface = e ∧ True) ∧ (mayB (Ins.mk (↑k : Int) (numT (at3 (List.take ((↑(splitL (32 : UInt8) s).length : Int).toNat - 1) (List.drop (1 : Nat) (splitL (32 :
 UInt8) s))) (0 : Int))).fst (0 : Int) (0 : Int) (0 : Int)) = false → ∃ (s_1 : RdS), splitL (32 : UInt8) s = splitL (32 : UInt8) s ∧ (↑k : Int) = (↑s_1.k : Int) ∧ IntKind.i64.wrap ((↑b : Int) + 1) = (↑s_1.b : Int) ∧ rdI s
 s_1 ∧ ((23 : Nat) - s_1.k) * 10 + ((2 : Nat) - s_1.b) * 2 + 1 < ((23 : Nat) - k) * 10 + ((2 : Nat) - b) * 2 ∧ True)))))) := by kernel_rfl
theorem rd_10f (s : List UInt8) (i : Ins) (e : AVal) (k b : Nat) : Go.Sy.Tree.holds (cutVC F (lookC l21) 600 Tryz.f21 b21 (rdF s i e) 10 (rdC10 s []) ⟨k, b⟩) = ( (((↑k : Int) == 13) = true → ((0 : Int) ≤ 1 ∧ (1 : Int) ≤
 (↑(splitL (32 : UInt8) s).length : Int) ∧ (↑(splitL (32 : UInt8) s).length : Int) ≤ (↑(splitL (32 : UInt8) s).length : Int)) ∧ mayD.pre (Ins.mk (↑k : Int) (0 : Int) (↑b : Int) (0 : Int) (0 : Int), ()) ∧ (mayB (Ins.mk (↑k
 : Int) (0 : Int) (↑b : Int) (0 : Int) (0 : Int)) = true → (↑k : Int) = i.op ∧ (0 : Int) = i.a ∧ (↑b : Int) = i.b ∧ (0 : Int) = i.c ∧ (0 : Int) = i.n ∧ constA Value.nilIface = e ∧ True) ∧ (mayB (Ins.mk (↑k : Int) (0 :
 Int) (↑b : Int) (0 : Int) (0 : Int)) = false → ∃ (s_1 : RdS), splitL (32 : UInt8) s = splitL (32 : UInt8) s ∧ (↑k : Int) = (↑s_1.k : Int) ∧ IntKind.i64.wrap ((↑b : Int) + 1) = (↑s_1.b : Int) ∧ rdI s s_1 ∧ ((23 : Nat) -
 s_1.k) * 10 + ((2 : Nat) - s_1.b) * 2 + 1 < ((23 : Nat) - k) * 10 + ((2 : Nat) - b) * 2 ∧ True)) ∧ (((↑k : Int) == 13) = false → ((0 : Int) ≤ 1 ∧ (1 : Int) ≤ (↑(splitL (32 : UInt8) s).length : Int) ∧ (↑(splitL (32 :
 UInt8) s).length : Int) ≤ (↑(splitL (32 : UInt8) s).length : Int)) ∧ mayD.pre (Ins.mk (↑k : Int) (0 : Int) (0 : Int) (0 : Int) (0 : Int), ()) ∧ (mayB (Ins.mk (↑k : Int) (0 : Int) (0 : Int) (0 : Int) (0 : Int)) = true →
 (↑k : Int) = i.op ∧ (0 : Int) = i.a ∧ (0 : Int) = i.b ∧ (0 : Int) = i.c ∧ (0 : Int) = i.n ∧ constA Value.nilIface = e ∧ True) ∧ (mayB (Ins.mk (↑k : Int) (0 : Int) (0 : Int) (0 : Int) (0 : Int)) = false → ∃ (s_1 : RdS),
 splitL (32 : UInt8) s = splitL (32 : UInt8) s ∧ (↑k : Int) = (↑s_1.k : Int) ∧ IntKind.i64.wrap ((↑b : Int) + 1) = (↑s_1.b : Int) ∧ rdI s s_1 ∧ ((23 : Nat) - s_1.k) * 10 + ((2 : Nat) - s_1.b) * 2 + 1 < ((23 : Nat) - k) *
 10 + ((2 : Nat) - b) * 2 ∧ True))) := by kernel_rfl

/-! ### Words are told apart -/
theorem wl1 : at3 wordsL 1 = [115, 101, 116] := rfl
theorem wl2 : at3 wordsL 2 = [97, 100, 100] := rfl
theorem wl3 : at3 wordsL 3 = [115, 117, 98] := rfl
theorem wl4 : at3 wordsL 4 = [109, 117, 108] := rfl
theorem wl5 : at3 wordsL 5 = [120, 111, 114] := rfl
theorem wl6 : at3 wordsL 6 = [108, 101, 115, 115] := rfl
theorem wl7 : at3 wordsL 7 = [115, 97, 109, 101] := rfl
theorem wl8 : at3 wordsL 8 = [108, 111, 97, 100] := rfl
theorem wl9 : at3 wordsL 9 = [115, 116, 111, 114, 101] := rfl
theorem wl10 : at3 wordsL 10 = [116, 97, 107, 101] := rfl
theorem wl11 : at3 wordsL 11 = [103, 105, 118, 101] := rfl
theorem wl12 : at3 wordsL 12 = [108, 111, 103] := rfl
theorem wl13 : at3 wordsL 13 = [101, 110, 116, 101, 114] := rfl
theorem wl14 : at3 wordsL 14 = [108, 101, 97, 118, 101] := rfl
theorem wl15 : at3 wordsL 15 = [119, 97, 105, 116] := rfl
theorem wl16 : at3 wordsL 16 = [115, 105, 103, 110, 97, 108] := rfl
theorem wl17 : at3 wordsL 17 = [99, 97, 115, 116] := rfl
theorem wl18 : at3 wordsL 18 = [105, 102] := rfl
theorem wl19 : at3 wordsL 19 = [101, 108, 115, 101] := rfl
theorem wl20 : at3 wordsL 20 = [101, 110, 100] := rfl
theorem wl21 : at3 wordsL 21 = [108, 111, 111, 112] := rfl
theorem wl22 : at3 wordsL 22 = [98, 97, 99, 107] := rfl
def idxW (w : List UInt8) : Nat := if w = [114, 101, 97, 100] then 13 else wordsL.idxOf w
theorem idx_word {k : Int} (b : Int) (h1 : 1 ≤ k) (h2 : k ≤ 22) : (idxW (wordB k b) : Int) = k := by
  rcases op_cases h1 h2 with rfl | rfl | rfl | rfl | rfl | rfl | rfl | rfl | rfl | rfl | rfl | rfl | rfl | rfl | rfl | rfl | rfl | rfl | rfl | rfl | rfl | rfl
  · rw [wordB, if_neg (by omega), wl1]; rfl
  · rw [wordB, if_neg (by omega), wl2]; rfl
  · rw [wordB, if_neg (by omega), wl3]; rfl
  · rw [wordB, if_neg (by omega), wl4]; rfl
  · rw [wordB, if_neg (by omega), wl5]; rfl
  · rw [wordB, if_neg (by omega), wl6]; rfl
  · rw [wordB, if_neg (by omega), wl7]; rfl
  · rw [wordB, if_neg (by omega), wl8]; rfl
  · rw [wordB, if_neg (by omega), wl9]; rfl
  · rw [wordB, if_neg (by omega), wl10]; rfl
  · rw [wordB, if_neg (by omega), wl11]; rfl
  · rw [wordB, if_neg (by omega), wl12]; rfl
  · unfold wordB
    split
    · rfl
    · rw [wl13]; rfl
  · rw [wordB, if_neg (by omega), wl14]; rfl
  · rw [wordB, if_neg (by omega), wl15]; rfl
  · rw [wordB, if_neg (by omega), wl16]; rfl
  · rw [wordB, if_neg (by omega), wl17]; rfl
  · rw [wordB, if_neg (by omega), wl18]; rfl
  · rw [wordB, if_neg (by omega), wl19]; rfl
  · rw [wordB, if_neg (by omega), wl20]; rfl
  · rw [wordB, if_neg (by omega), wl21]; rfl
  · rw [wordB, if_neg (by omega), wl22]; rfl
theorem word_inj {k op b b' : Int} (h1 : 1 ≤ k) (h2 : k ≤ 22) (h3 : 1 ≤ op) (h4 : op ≤ 22) (h : wordB k b = wordB op b') : k = op ∧ (op = 13 → (b = 1 ↔ b' = 1)) := by
  have e1 := idx_word b h1 h2
  have e2 := idx_word b' h3 h4
  rw [h] at e1
  have e : k = op := by omega
  subst e
  refine ⟨rfl, ?_⟩
  rintro rfl
  have ne : ¬ ([114, 101, 97, 100] : List UInt8) = [101, 110, 116, 101, 114] := by decide
  unfold wordB at h
  rw [wl13] at h
  by_cases g1 : b = 1
  · by_cases g2 : b' = 1
    · exact ⟨fun _ => g2, fun _ => g1⟩
    · rw [if_pos ⟨rfl, g1⟩, if_neg (fun x => g2 x.2)] at h
      exact absurd h ne
  · by_cases g2 : b' = 1
    · rw [if_neg (fun x => g1 x.2), if_pos ⟨rfl, g2⟩] at h
      exact absurd h.symm ne
    · exact ⟨fun x => absurd x g1, fun x => absurd x g2⟩
theorem fields_six (op : Int) : fieldsOf op = [97, 110] ∨ fieldsOf op = [97, 98, 99] ∨ fieldsOf op = [97, 98, 110] ∨ fieldsOf op = [98, 110] ∨ fieldsOf op = [97] ∨ fieldsOf op = [] := by
  unfold fieldsOf
  repeat' split
  all_goals simp
theorem ne13 {k : Int} {f : List UInt8} (h : fieldsOf k = f) (hf : f ≠ [97]) : ((k : Int) == 13) = false := by
  by_cases e : k = 13
  · subst e
    exact absurd h.symm hf
  · simpa using e

/-! ### verb -/
theorem vb_e_ok (op b : Int) (h1 : 1 ≤ op) (h2 : op ≤ 22) : Paid (entryX F (lookC []) 400 Tryz.f27 b27 ⟨[], .tup [.s (wordB op b), .s (fieldsOf op)], []⟩ [.i .i64 op, .i .i64 b]) := by
  refine ⟨?_⟩
  rw [vb_e]
  by_cases hb : b = 1
  · subst hb
    rcases op_cases h1 h2 with rfl | rfl | rfl | rfl | rfl | rfl | rfl | rfl | rfl | rfl | rfl | rfl | rfl | rfl | rfl | rfl | rfl | rfl | rfl | rfl | rfl | rfl <;> simp [wordB, fieldsOf, wl1, wl2, wl3, wl4, wl5, wl6, wl7, wl8, wl9, wl10, wl11, wl12, wl13, wl14, wl15, wl16, wl17, wl18, wl19, wl20, wl21, wl22]
  · rcases op_cases h1 h2 with rfl | rfl | rfl | rfl | rfl | rfl | rfl | rfl | rfl | rfl | rfl | rfl | rfl | rfl | rfl | rfl | rfl | rfl | rfl | rfl | rfl | rfl <;> simp [wordB, fieldsOf, hb, wl1, wl2, wl3, wl4, wl5, wl6, wl7, wl8, wl9, wl10, wl11, wl12, wl13, wl14, wl15, wl16, wl17, wl18, wl19, wl20, wl21, wl22]
theorem vbOk : CtrOk1 F.S 27 (mkCtr vbD) :=
  mkCtr_paid (fn := Tryz.f27) (body := b27) (ctr := lookC []) codOk noExt hookLow noneOk Tryz.func27 rfl rfl rfl vbD 400 (fun _ => []) (show 2 ≤ Tryz.f27.ntmps by decide) (show Tryz.f27.ntmps ≤ 512 by decide) (by kernel_rfl) (fun _ _ => ⟨rfl, rfl⟩)
    (fun (x : Int × Int × Unit) hp => vb_e_ok x.1 x.2.1 hp.1 hp.2) (fun x hp p hm => by cases hm)

/-! ### read -/
theorem splitW_le (s : List UInt8) : ∀ w ∈ splitL 32 s, w.length ≤ s.length := by
  induction s with
  | nil => intro w hw; simp [splitL] at hw; rw [hw]; exact Nat.le_refl _
  | cons c s ih =>
    intro w hw
    unfold splitL at hw
    split at hw
    · rcases List.mem_cons.1 hw with rfl | hw
      · exact Nat.zero_le _
      · have := ih w hw; rw [List.length_cons]; omega
    · split at hw
      · simp at hw; rw [hw]; simp
      · rename_i x r hx
        rcases List.mem_cons.1 hw with rfl | hw
        · have := ih x (by rw [hx]; exact List.mem_cons_self)
          rw [List.length_cons, List.length_cons]; omega
        · have := ih w (by rw [hx]; exact List.mem_cons_of_mem _ hw)
          rw [List.length_cons]; omega
theorem split_pos (c : UInt8) (s : List UInt8) : 0 < (splitL c s).length := List.length_pos_iff.2 (splitL_ne c s)
theorem split_len (c : UInt8) : ∀ s : List UInt8, (splitL c s).length ≤ s.length + 1
  | [] => Nat.le_refl _
  | b :: s => by
    have ih := split_len c s
    unfold splitL
    split
    · simp only [List.length_cons]; omega
    · split
      · simp only [List.length_cons, List.length_nil]; omega
      · rename_i x r hx
        rw [hx] at ih
        simp only [List.length_cons] at ih ⊢
        omega

/-! ### Numbers into fields -/
theorem fill_no {c : UInt8} {f : List UInt8} {w : List UInt8} {l : List (List UInt8)} {i : Ins} (h : (!(numT w).2) = true) : fillT (c :: f) (w :: l) i = none := by
  rw [fillT, if_pos]
  rw [h]
  rfl
theorem fill_lo {c : UInt8} {f : List UInt8} {w : List UInt8} {l : List (List UInt8)} {i : Ins} (hc : (c == 110) = false) (h : decide ((numT w).1 < 0) = true) : fillT (c :: f) (w :: l) i = none := by
  rw [fillT, if_pos]
  rw [h, hc]
  cases (numT w).2 <;> rfl
theorem fill_hi {c : UInt8} {f : List UInt8} {w : List UInt8} {l : List (List UInt8)} {i : Ins} (hc : (c == 110) = false) (h : decide ((numT w).1 > 9) = true) : fillT (c :: f) (w :: l) i = none := by
  rw [fillT, if_pos]
  rw [h, hc]
  cases (numT w).2 <;> cases decide ((numT w).1 < 0) <;> rfl
theorem fill_on {c : UInt8} {f : List UInt8} {w : List UInt8} {l : List (List UInt8)} {i : Ins} (h0 : (!(numT w).2) = false) (h1 : decide ((numT w).1 < 0) = false) (h2 : decide ((numT w).1 > 9) = false) : fillT (c :: f) (w :: l) i = fillT f l (setF c (numT w).1 i) := by
  rw [fillT, if_neg]
  rw [h0, h1, h2]
  cases (c == 110) <;> simp
theorem fill_num {f : List UInt8} {w : List UInt8} {l : List (List UInt8)} {i : Ins} (h0 : (!(numT w).2) = false) : fillT (110 :: f) (w :: l) i = fillT f l (setF 110 (numT w).1 i) := by
  rw [fillT, if_neg]
  rw [h0]
  simp
theorem try_is {l : List (List UInt8)} {k b : Int} (hw : wordB k b = at3 l 0) (hl : (fieldsOf k).length + 1 = l.length) :
    tryT l k b = match fillT (fieldsOf k) (l.drop 1) ⟨k, 0, if k = 13 then b else 0, 0, 0⟩ with
      | some i => if mayB i = true then some i else none
      | none => none := by
  have hc : ¬ ((!(wordB k b == at3 l 0) || !((fieldsOf k).length + 1 == l.length)) = true) := by rw [hw, hl]; simp
  rw [tryT, if_neg hc]
  rfl
theorem go_next {l : List (List UInt8)} {k b : Nat} (hb : b ≤ 1) (ht : tryT l k b = none) : readGo l (fuelOf k b) k b = readGo l (fuelOf k (b + 1)) k (b + 1) := by
  have e : fuelOf k b = fuelOf k (b + 1) + 1 := by unfold fuelOf; omega
  rw [e, readGo, if_pos hb, ht]
theorem go_hit {l : List (List UInt8)} {k b : Nat} {i : Ins} (hb : b ≤ 1) (ht : tryT l k b = some i) : readGo l (fuelOf k b) k b = some i := by
  have e : fuelOf k b = fuelOf k (b + 1) + 1 := by unfold fuelOf; omega
  rw [e, readGo, if_pos hb, ht]
theorem rd_next {s : List UInt8} {k b : Nat} (hI : rdI s ⟨k, b⟩) (hb : b ≤ 1) (ht : tryT (splitL 32 s) k b = none) : ∃ s_1 : RdS, splitL 32 s = splitL 32 s ∧ (k : Int) = (s_1.k : Int) ∧ IntKind.i64.wrap ((b : Int) + 1) = (s_1.b : Int) ∧ rdI s s_1 ∧
    (23 - s_1.k) * 10 + (2 - s_1.b) * 2 + 1 < (23 - k) * 10 + (2 - b) * 2 ∧ True := by
  obtain ⟨h1, h2, h3, h4⟩ := hI
  refine ⟨⟨k, b + 1⟩, rfl, rfl, ?_, ⟨h1, h2, by show b + 1 ≤ 2; omega, ?_⟩, by show (23 - k) * 10 + (2 - (b + 1)) * 2 + 1 < _; omega, trivial⟩
  · rw [wrap64 (by omega) (by omega)]; rfl
  · rw [← h4]
    exact (go_next hb ht).symm
theorem rd_hit {s : List UInt8} {k b : Nat} {i j : Ins} {e : AVal} (hI : rdI s ⟨k, b⟩) (hb : b ≤ 1) (hR : ReadIs s i e) (ht : tryT (splitL 32 s) k b = some j) : i = j ∧ e = .nili := by
  obtain ⟨_, _, _, h4⟩ := hI
  have h4 : readGo (splitL 32 s) (fuelOf k b) k b = readT (splitL 32 s) := h4
  rw [go_hit hb ht] at h4
  rcases hR with ⟨h5, h6⟩ | ⟨h5, _⟩
  · rw [h5] at h4
    exact ⟨(Option.some.inj h4).symm, h6⟩
  · rw [h5] at h4
    exact nomatch h4
theorem len1 {α : Type} {l : List α} (h : 0 + 1 = l.length) : ∃ a, l = [a] := by
  rcases l with _ | ⟨a, _ | ⟨b, l⟩⟩
  · cases h
  · exact ⟨a, rfl⟩
  · simp at h
theorem len2 {α : Type} {l : List α} (h : 1 + 1 = l.length) : ∃ a b, l = [a, b] := by
  rcases l with _ | ⟨a, _ | ⟨b, _ | ⟨c, l⟩⟩⟩
  · cases h
  · simp at h
  · exact ⟨a, b, rfl⟩
  · simp at h
theorem len3 {α : Type} {l : List α} (h : 2 + 1 = l.length) : ∃ a b c, l = [a, b, c] := by
  rcases l with _ | ⟨a, _ | ⟨b, _ | ⟨c, _ | ⟨d, l⟩⟩⟩⟩
  · cases h
  · simp at h
  · simp at h
  · exact ⟨a, b, c, rfl⟩
  · simp at h
theorem len4 {α : Type} {l : List α} (h : 3 + 1 = l.length) : ∃ a b c d, l = [a, b, c, d] := by
  rcases l with _ | ⟨a, _ | ⟨b, _ | ⟨c, _ | ⟨d, _ | ⟨x, l⟩⟩⟩⟩⟩
  · cases h
  · simp at h
  · simp at h
  · simp at h
  · exact ⟨a, b, c, d, rfl⟩
  · simp at h

/-! ### read -/
theorem rd_e_ok (s : List UInt8) (hs : s.length ≤ 20000) (i : Ins) (e : AVal) : Paid (entryX F (lookC l21) 600 Tryz.f21 b21 (rdF s i e) [.s s]) := by
  refine ⟨?_⟩
  rw [rd_e]
  exact ⟨by omega, ⟨1, 0⟩, rfl, rfl, rfl, ⟨Nat.le_refl _, by show 1 ≤ 22; omega, by show 0 ≤ 2; omega, rfl⟩, trivial⟩
theorem rd_6_ok (s : List UInt8) (hs : s.length ≤ 20000) (i : Ins) (e : AVal) (hR : ReadIs s i e) (k b : Nat) (h : rdI s ⟨k, b⟩) : Paid (cutVC F (lookC l21) 600 Tryz.f21 b21 (rdF s i e) 6 (rdC6 s) ⟨k, b⟩) := by
  refine ⟨?_⟩
  rw [rd_6]
  have hI := h
  obtain ⟨h1, h2, h3, h4⟩ := h
  have h1 : 1 ≤ k := h1
  have h2 : k ≤ 22 := h2
  have h3 : b ≤ 2 := h3
  have h4 : readGo (splitL 32 s) (fuelOf k b) k b = readT (splitL 32 s) := h4
  have hp := split_pos 32 s
  have hl := split_len 32 s
  have next : ∀ hb : b ≤ 1, tryT (splitL 32 s) k b = none → ∃ s_1 : RdS, splitL 32 s = splitL 32 s ∧ (k : Int) = (s_1.k : Int) ∧ IntKind.i64.wrap ((b : Int) + 1) = (s_1.b : Int) ∧ rdI s s_1 ∧
      (23 - s_1.k) * 10 + (2 - s_1.b) * 2 + 1 < (23 - k) * 10 + (2 - b) * 2 + 1 ∧ True := by
    intro hb ht
    obtain ⟨x, q1, q2, q3, q4, q5, _⟩ := rd_next hI hb ht
    exact ⟨x, q1, q2, q3, q4, Nat.lt_succ_of_lt q5, trivial⟩
  refine ⟨fun g => ?_, fun g => ⟨fun g1 => ?_, fun g1 => ?_⟩⟩
  · have hb : b ≤ 1 := by simp only [decide_eq_true_eq] at g; omega
    refine ⟨⟨by omega, by omega⟩, ⟨by omega, by omega⟩, fun g1 => next hb ?_, fun g1 => ⟨fun g2 => next hb ?_, fun g2 => ?_⟩⟩
    · rw [tryT, if_pos]
      rw [g1]
      rfl
    · rw [tryT, if_pos]
      have hne : ((fieldsOf k).length + 1 == (splitL 32 s).length) = false := by
        rw [wrap64 (by omega) (by omega)] at g2
        rw [beq_eq_false_iff_ne]
        intro e
        have : ((fieldsOf (k : Int)).length : Int) = ((splitL 32 s).length : Int) - 1 := by omega
        simp [this] at g2
      rw [hne]
      simp
    · have hw : wordB k b = at3 (splitL 32 s) 0 := by simpa using g1
      have hf : (fieldsOf k).length + 1 = (splitL 32 s).length := by
        rw [wrap64 (by omega) (by omega)] at g2
        have : ((fieldsOf (k : Int)).length : Int) = ((splitL 32 s).length : Int) - 1 := by simpa using g2
        omega
      have fin : ∀ f, fieldsOf k = f → ∃ s_1 : RdS, splitL 32 s = splitL 32 s ∧ (k : Int) = (s_1.k : Int) ∧ (b : Int) = (s_1.b : Int) ∧ AVal.str (fieldsOf k) = AVal.str f ∧ rdJ s f s_1 ∧
          (23 - s_1.k) * 10 + (2 - s_1.b) * 2 < (23 - k) * 10 + (2 - b) * 2 + 1 ∧ True :=
        fun f e => ⟨⟨k, b⟩, rfl, rfl, rfl, by rw [e], ⟨hI, hb, e, hw, by rw [← e]; exact hf⟩, Nat.lt_succ_self _, trivial⟩
      rcases fields_six k with hf | hf | hf | hf | hf | hf
      · exact ⟨true, fun _ => fin _ hf, (fun x => nomatch x)⟩
      · exact ⟨false, (fun x => nomatch x), fun _ => ⟨true, fun _ => fin _ hf, (fun x => nomatch x)⟩⟩
      · exact ⟨false, (fun x => nomatch x), fun _ => ⟨false, (fun x => nomatch x), fun _ => ⟨true, fun _ => fin _ hf, (fun x => nomatch x)⟩⟩⟩
      · exact ⟨false, (fun x => nomatch x), fun _ => ⟨false, (fun x => nomatch x), fun _ => ⟨false, (fun x => nomatch x), fun _ => ⟨true, fun _ => fin _ hf, (fun x => nomatch x)⟩⟩⟩⟩
      · exact ⟨false, (fun x => nomatch x), fun _ => ⟨false, (fun x => nomatch x), fun _ => ⟨false, (fun x => nomatch x), fun _ => ⟨false, (fun x => nomatch x), fun _ => ⟨true, fun _ => fin _ hf, (fun x => nomatch x)⟩⟩⟩⟩⟩
      · exact ⟨false, (fun x => nomatch x), fun _ => ⟨false, (fun x => nomatch x), fun _ => ⟨false, (fun x => nomatch x), fun _ => ⟨false, (fun x => nomatch x), fun _ => ⟨false, (fun x => nomatch x), fun _ => fin _ hf⟩⟩⟩⟩⟩
  · have hb : b = 2 := by simp only [decide_eq_false_iff_not] at g; omega
    subst hb
    rw [wrap64 (by omega) (by omega)] at g1 ⊢
    simp only [decide_eq_true_eq] at g1
    have e : fuelOf k 2 = fuelOf (k + 1) 0 + 1 := by unfold fuelOf; omega
    rw [e, readGo, if_neg (by omega), if_pos (by omega)] at h4
    exact ⟨⟨k + 1, 0⟩, rfl, rfl, rfl, ⟨by show 1 ≤ k + 1; omega, by show k + 1 ≤ 22; omega, by show 0 ≤ 2; omega, h4⟩, by show (23 - (k + 1)) * 10 + (2 - 0) * 2 + 1 < _; omega, trivial⟩
  · have hb : b = 2 := by simp only [decide_eq_false_iff_not] at g; omega
    subst hb
    rw [wrap64 (by omega) (by omega)] at g1
    simp only [decide_eq_false_iff_not] at g1
    have hk : k = 22 := by omega
    subst hk
    have h5 : readT (splitL 32 s) = none := by rw [← h4]; rfl
    rcases hR with ⟨h6, _⟩ | ⟨_, h6, h7⟩
    · rw [h5] at h6; exact nomatch h6
    · rw [h6, h7]
      exact ⟨rfl, rfl, rfl, rfl, rfl, rfl, trivial⟩
theorem rd_10a_ok (s : List UInt8) (hs : s.length ≤ 20000) (i : Ins) (e : AVal) (hR : ReadIs s i e) (k b : Nat) (h : rdJ s [97, 110] ⟨k, b⟩) : Paid (cutVC F (lookC l21) 600 Tryz.f21 b21 (rdF s i e) 10 (rdC10 s [97, 110]) ⟨k, b⟩) := by
  refine ⟨?_⟩
  rw [rd_10a]
  obtain ⟨hI, hb, hf, hw, hl⟩ := h
  have hb : b ≤ 1 := hb
  have hf : fieldsOf k = [97, 110] := hf
  have hT := try_is (l := splitL 32 s) (k := k) (b := b) hw (by rw [hf]; exact hl)
  obtain ⟨w0, w1, w2, hws⟩ := len3 (l := splitL 32 s) hl
  have hlen : ∀ w ∈ splitL 32 s, w.length ≤ 100000 := fun w h => by have := splitW_le s w h; omega
  have hp : (splitL 32 s).length = 3 := by rw [hws]; rfl
  have eL : (List.take (((splitL 32 s).length : Int).toNat - 1) (List.drop 1 (splitL 32 s))).length = 2 := by rw [hws]; rfl
  have e0 : at3 (List.take (((splitL 32 s).length : Int).toNat - 1) (List.drop 1 (splitL 32 s))) 0 = w1 := by rw [hws]; rfl
  have e1 : at3 (List.take (((splitL 32 s).length : Int).toNat - 1) (List.drop 1 (splitL 32 s))) 1 = w2 := by rw [hws]; rfl
  rw [eL, e0, e1]
  have n1 : nmD.pre (w1, ()) := hlen w1 (by rw [hws]; simp)
  have n2 : nmD.pre (w2, ()) := hlen w2 (by rw [hws]; simp)
  rw [hf, hws] at hT
  have hT : tryT (splitL 32 s) k b = match fillT [97, 110] [w1, w2] ⟨k, 0, if (k : Int) = 13 then (b : Int) else 0, 0, 0⟩ with
      | some i => if mayB i = true then some i else none
      | none => none := by rw [hws]; exact hT
  have n13 : ((k : Int) == 13) = false := ne13 hf (by decide)
  rw [if_neg (ne_of_beq_false n13)] at hT
  refine ⟨fun x => absurd (n13.symm.trans x) (by decide), fun g13 => ?_⟩
  refine ⟨⟨by decide, by omega, Int.le_refl _⟩, ⟨by decide, by decide⟩, n1, fun g1 => ?_, fun g1 => ⟨fun p1 => ?_, fun p1 => ⟨fun q1 => ?_, fun q1 => ⟨⟨by decide, by decide⟩, n2, fun g2 => ?_, fun g2 => ⟨trivial, fun gm => ?_, fun gm => ?_⟩⟩⟩⟩⟩
  · exact rd_next hI hb (by rw [hT, fill_no g1])
  · exact rd_next hI hb (by rw [hT, fill_lo rfl p1])
  · exact rd_next hI hb (by rw [hT, fill_hi rfl q1])
  · exact rd_next hI hb (by rw [hT, fill_on g1 p1 q1, fill_no g2])
  · obtain ⟨rfl, rfl⟩ := rd_hit (j := Ins.mk k ((numT w1).1) (0) (0) ((numT w2).1)) hI hb hR (by rw [hT, fill_on g1 p1 q1, fill_num g2]; exact if_pos gm)
    exact ⟨rfl, rfl, rfl, rfl, rfl, rfl, trivial⟩
  · exact rd_next hI hb (by rw [hT, fill_on g1 p1 q1, fill_num g2]; exact if_neg (by show ¬ mayB (Ins.mk k ((numT w1).1) (0) (0) ((numT w2).1)) = true; rw [gm]; decide))
theorem rd_10b_ok (s : List UInt8) (hs : s.length ≤ 20000) (i : Ins) (e : AVal) (hR : ReadIs s i e) (k b : Nat) (h : rdJ s [97, 98, 99] ⟨k, b⟩) : Paid (cutVC F (lookC l21) 600 Tryz.f21 b21 (rdF s i e) 10 (rdC10 s [97, 98, 99]) ⟨k, b⟩) := by
  refine ⟨?_⟩
  rw [rd_10b]
  obtain ⟨hI, hb, hf, hw, hl⟩ := h
  have hb : b ≤ 1 := hb
  have hf : fieldsOf k = [97, 98, 99] := hf
  have hT := try_is (l := splitL 32 s) (k := k) (b := b) hw (by rw [hf]; exact hl)
  obtain ⟨w0, w1, w2, w3, hws⟩ := len4 (l := splitL 32 s) hl
  have hlen : ∀ w ∈ splitL 32 s, w.length ≤ 100000 := fun w h => by have := splitW_le s w h; omega
  have hp : (splitL 32 s).length = 4 := by rw [hws]; rfl
  have eL : (List.take (((splitL 32 s).length : Int).toNat - 1) (List.drop 1 (splitL 32 s))).length = 3 := by rw [hws]; rfl
  have e0 : at3 (List.take (((splitL 32 s).length : Int).toNat - 1) (List.drop 1 (splitL 32 s))) 0 = w1 := by rw [hws]; rfl
  have e1 : at3 (List.take (((splitL 32 s).length : Int).toNat - 1) (List.drop 1 (splitL 32 s))) 1 = w2 := by rw [hws]; rfl
  have e2 : at3 (List.take (((splitL 32 s).length : Int).toNat - 1) (List.drop 1 (splitL 32 s))) 2 = w3 := by rw [hws]; rfl
  rw [eL, e0, e1, e2]
  have n1 : nmD.pre (w1, ()) := hlen w1 (by rw [hws]; simp)
  have n2 : nmD.pre (w2, ()) := hlen w2 (by rw [hws]; simp)
  have n3 : nmD.pre (w3, ()) := hlen w3 (by rw [hws]; simp)
  rw [hf, hws] at hT
  have hT : tryT (splitL 32 s) k b = match fillT [97, 98, 99] [w1, w2, w3] ⟨k, 0, if (k : Int) = 13 then (b : Int) else 0, 0, 0⟩ with
      | some i => if mayB i = true then some i else none
      | none => none := by rw [hws]; exact hT
  have n13 : ((k : Int) == 13) = false := ne13 hf (by decide)
  rw [if_neg (ne_of_beq_false n13)] at hT
  refine ⟨fun x => absurd (n13.symm.trans x) (by decide), fun g13 => ?_⟩
  refine ⟨⟨by decide, by omega, Int.le_refl _⟩, ⟨by decide, by decide⟩, n1, fun g1 => ?_, fun g1 => ⟨fun p1 => ?_, fun p1 => ⟨fun q1 => ?_, fun q1 => ⟨⟨by decide, by decide⟩, n2, fun g2 => ?_, fun g2 => ⟨fun p2 => ?_, fun p2 => ⟨fun q2 => ?_, fun q2 => ⟨⟨by decide, by decide⟩, n3, fun g3 => ?_, fun g3 => ⟨fun p3 => ?_, fun p3 => ⟨fun q3 => ?_, fun q3 => ⟨trivial, fun gm => ?_, fun gm => ?_⟩⟩⟩⟩⟩⟩⟩⟩⟩⟩
  · exact rd_next hI hb (by rw [hT, fill_no g1])
  · exact rd_next hI hb (by rw [hT, fill_lo rfl p1])
  · exact rd_next hI hb (by rw [hT, fill_hi rfl q1])
  · exact rd_next hI hb (by rw [hT, fill_on g1 p1 q1, fill_no g2])
  · exact rd_next hI hb (by rw [hT, fill_on g1 p1 q1, fill_lo rfl p2])
  · exact rd_next hI hb (by rw [hT, fill_on g1 p1 q1, fill_hi rfl q2])
  · exact rd_next hI hb (by rw [hT, fill_on g1 p1 q1, fill_on g2 p2 q2, fill_no g3])
  · exact rd_next hI hb (by rw [hT, fill_on g1 p1 q1, fill_on g2 p2 q2, fill_lo rfl p3])
  · exact rd_next hI hb (by rw [hT, fill_on g1 p1 q1, fill_on g2 p2 q2, fill_hi rfl q3])
  · obtain ⟨rfl, rfl⟩ := rd_hit (j := Ins.mk k ((numT w1).1) ((numT w2).1) ((numT w3).1) (0)) hI hb hR (by rw [hT, fill_on g1 p1 q1, fill_on g2 p2 q2, fill_on g3 p3 q3]; exact if_pos gm)
    exact ⟨rfl, rfl, rfl, rfl, rfl, rfl, trivial⟩
  · exact rd_next hI hb (by rw [hT, fill_on g1 p1 q1, fill_on g2 p2 q2, fill_on g3 p3 q3]; exact if_neg (by show ¬ mayB (Ins.mk k ((numT w1).1) ((numT w2).1) ((numT w3).1) (0)) = true; rw [gm]; decide))
theorem rd_10c_ok (s : List UInt8) (hs : s.length ≤ 20000) (i : Ins) (e : AVal) (hR : ReadIs s i e) (k b : Nat) (h : rdJ s [97, 98, 110] ⟨k, b⟩) : Paid (cutVC F (lookC l21) 600 Tryz.f21 b21 (rdF s i e) 10 (rdC10 s [97, 98, 110]) ⟨k, b⟩) := by
  refine ⟨?_⟩
  rw [rd_10c]
  obtain ⟨hI, hb, hf, hw, hl⟩ := h
  have hb : b ≤ 1 := hb
  have hf : fieldsOf k = [97, 98, 110] := hf
  have hT := try_is (l := splitL 32 s) (k := k) (b := b) hw (by rw [hf]; exact hl)
  obtain ⟨w0, w1, w2, w3, hws⟩ := len4 (l := splitL 32 s) hl
  have hlen : ∀ w ∈ splitL 32 s, w.length ≤ 100000 := fun w h => by have := splitW_le s w h; omega
  have hp : (splitL 32 s).length = 4 := by rw [hws]; rfl
  have eL : (List.take (((splitL 32 s).length : Int).toNat - 1) (List.drop 1 (splitL 32 s))).length = 3 := by rw [hws]; rfl
  have e0 : at3 (List.take (((splitL 32 s).length : Int).toNat - 1) (List.drop 1 (splitL 32 s))) 0 = w1 := by rw [hws]; rfl
  have e1 : at3 (List.take (((splitL 32 s).length : Int).toNat - 1) (List.drop 1 (splitL 32 s))) 1 = w2 := by rw [hws]; rfl
  have e2 : at3 (List.take (((splitL 32 s).length : Int).toNat - 1) (List.drop 1 (splitL 32 s))) 2 = w3 := by rw [hws]; rfl
  rw [eL, e0, e1, e2]
  have n1 : nmD.pre (w1, ()) := hlen w1 (by rw [hws]; simp)
  have n2 : nmD.pre (w2, ()) := hlen w2 (by rw [hws]; simp)
  have n3 : nmD.pre (w3, ()) := hlen w3 (by rw [hws]; simp)
  rw [hf, hws] at hT
  have hT : tryT (splitL 32 s) k b = match fillT [97, 98, 110] [w1, w2, w3] ⟨k, 0, if (k : Int) = 13 then (b : Int) else 0, 0, 0⟩ with
      | some i => if mayB i = true then some i else none
      | none => none := by rw [hws]; exact hT
  have n13 : ((k : Int) == 13) = false := ne13 hf (by decide)
  rw [if_neg (ne_of_beq_false n13)] at hT
  refine ⟨fun x => absurd (n13.symm.trans x) (by decide), fun g13 => ?_⟩
  refine ⟨⟨by decide, by omega, Int.le_refl _⟩, ⟨by decide, by decide⟩, n1, fun g1 => ?_, fun g1 => ⟨fun p1 => ?_, fun p1 => ⟨fun q1 => ?_, fun q1 => ⟨⟨by decide, by decide⟩, n2, fun g2 => ?_, fun g2 => ⟨fun p2 => ?_, fun p2 => ⟨fun q2 => ?_, fun q2 => ⟨⟨by decide, by decide⟩, n3, fun g3 => ?_, fun g3 => ⟨trivial, fun gm => ?_, fun gm => ?_⟩⟩⟩⟩⟩⟩⟩⟩
  · exact rd_next hI hb (by rw [hT, fill_no g1])
  · exact rd_next hI hb (by rw [hT, fill_lo rfl p1])
  · exact rd_next hI hb (by rw [hT, fill_hi rfl q1])
  · exact rd_next hI hb (by rw [hT, fill_on g1 p1 q1, fill_no g2])
  · exact rd_next hI hb (by rw [hT, fill_on g1 p1 q1, fill_lo rfl p2])
  · exact rd_next hI hb (by rw [hT, fill_on g1 p1 q1, fill_hi rfl q2])
  · exact rd_next hI hb (by rw [hT, fill_on g1 p1 q1, fill_on g2 p2 q2, fill_no g3])
  · obtain ⟨rfl, rfl⟩ := rd_hit (j := Ins.mk k ((numT w1).1) ((numT w2).1) (0) ((numT w3).1)) hI hb hR (by rw [hT, fill_on g1 p1 q1, fill_on g2 p2 q2, fill_num g3]; exact if_pos gm)
    exact ⟨rfl, rfl, rfl, rfl, rfl, rfl, trivial⟩
  · exact rd_next hI hb (by rw [hT, fill_on g1 p1 q1, fill_on g2 p2 q2, fill_num g3]; exact if_neg (by show ¬ mayB (Ins.mk k ((numT w1).1) ((numT w2).1) (0) ((numT w3).1)) = true; rw [gm]; decide))
theorem rd_10d_ok (s : List UInt8) (hs : s.length ≤ 20000) (i : Ins) (e : AVal) (hR : ReadIs s i e) (k b : Nat) (h : rdJ s [98, 110] ⟨k, b⟩) : Paid (cutVC F (lookC l21) 600 Tryz.f21 b21 (rdF s i e) 10 (rdC10 s [98, 110]) ⟨k, b⟩) := by
  refine ⟨?_⟩
  rw [rd_10d]
  obtain ⟨hI, hb, hf, hw, hl⟩ := h
  have hb : b ≤ 1 := hb
  have hf : fieldsOf k = [98, 110] := hf
  have hT := try_is (l := splitL 32 s) (k := k) (b := b) hw (by rw [hf]; exact hl)
  obtain ⟨w0, w1, w2, hws⟩ := len3 (l := splitL 32 s) hl
  have hlen : ∀ w ∈ splitL 32 s, w.length ≤ 100000 := fun w h => by have := splitW_le s w h; omega
  have hp : (splitL 32 s).length = 3 := by rw [hws]; rfl
  have eL : (List.take (((splitL 32 s).length : Int).toNat - 1) (List.drop 1 (splitL 32 s))).length = 2 := by rw [hws]; rfl
  have e0 : at3 (List.take (((splitL 32 s).length : Int).toNat - 1) (List.drop 1 (splitL 32 s))) 0 = w1 := by rw [hws]; rfl
  have e1 : at3 (List.take (((splitL 32 s).length : Int).toNat - 1) (List.drop 1 (splitL 32 s))) 1 = w2 := by rw [hws]; rfl
  rw [eL, e0, e1]
  have n1 : nmD.pre (w1, ()) := hlen w1 (by rw [hws]; simp)
  have n2 : nmD.pre (w2, ()) := hlen w2 (by rw [hws]; simp)
  rw [hf, hws] at hT
  have hT : tryT (splitL 32 s) k b = match fillT [98, 110] [w1, w2] ⟨k, 0, if (k : Int) = 13 then (b : Int) else 0, 0, 0⟩ with
      | some i => if mayB i = true then some i else none
      | none => none := by rw [hws]; exact hT
  have n13 : ((k : Int) == 13) = false := ne13 hf (by decide)
  rw [if_neg (ne_of_beq_false n13)] at hT
  refine ⟨fun x => absurd (n13.symm.trans x) (by decide), fun g13 => ?_⟩
  refine ⟨⟨by decide, by omega, Int.le_refl _⟩, ⟨by decide, by decide⟩, n1, fun g1 => ?_, fun g1 => ⟨fun p1 => ?_, fun p1 => ⟨fun q1 => ?_, fun q1 => ⟨⟨by decide, by decide⟩, n2, fun g2 => ?_, fun g2 => ⟨trivial, fun gm => ?_, fun gm => ?_⟩⟩⟩⟩⟩
  · exact rd_next hI hb (by rw [hT, fill_no g1])
  · exact rd_next hI hb (by rw [hT, fill_lo rfl p1])
  · exact rd_next hI hb (by rw [hT, fill_hi rfl q1])
  · exact rd_next hI hb (by rw [hT, fill_on g1 p1 q1, fill_no g2])
  · obtain ⟨rfl, rfl⟩ := rd_hit (j := Ins.mk k (0) ((numT w1).1) (0) ((numT w2).1)) hI hb hR (by rw [hT, fill_on g1 p1 q1, fill_num g2]; exact if_pos gm)
    exact ⟨rfl, rfl, rfl, rfl, rfl, rfl, trivial⟩
  · exact rd_next hI hb (by rw [hT, fill_on g1 p1 q1, fill_num g2]; exact if_neg (by show ¬ mayB (Ins.mk k (0) ((numT w1).1) (0) ((numT w2).1)) = true; rw [gm]; decide))
theorem rd_10e_ok (s : List UInt8) (hs : s.length ≤ 20000) (i : Ins) (e : AVal) (hR : ReadIs s i e) (k b : Nat) (h : rdJ s [97] ⟨k, b⟩) : Paid (cutVC F (lookC l21) 600 Tryz.f21 b21 (rdF s i e) 10 (rdC10 s [97]) ⟨k, b⟩) := by
  refine ⟨?_⟩
  rw [rd_10e]
  obtain ⟨hI, hb, hf, hw, hl⟩ := h
  have hb : b ≤ 1 := hb
  have hf : fieldsOf k = [97] := hf
  have hT := try_is (l := splitL 32 s) (k := k) (b := b) hw (by rw [hf]; exact hl)
  obtain ⟨w0, w1, hws⟩ := len2 (l := splitL 32 s) hl
  have hlen : ∀ w ∈ splitL 32 s, w.length ≤ 100000 := fun w h => by have := splitW_le s w h; omega
  have hp : (splitL 32 s).length = 2 := by rw [hws]; rfl
  have eL : (List.take (((splitL 32 s).length : Int).toNat - 1) (List.drop 1 (splitL 32 s))).length = 1 := by rw [hws]; rfl
  have e0 : at3 (List.take (((splitL 32 s).length : Int).toNat - 1) (List.drop 1 (splitL 32 s))) 0 = w1 := by rw [hws]; rfl
  rw [eL, e0]
  have n1 : nmD.pre (w1, ()) := hlen w1 (by rw [hws]; simp)
  rw [hf, hws] at hT
  have hT : tryT (splitL 32 s) k b = match fillT [97] [w1] ⟨k, 0, if (k : Int) = 13 then (b : Int) else 0, 0, 0⟩ with
      | some i => if mayB i = true then some i else none
      | none => none := by rw [hws]; exact hT
  refine ⟨fun g13 => ?_, fun g13 => ?_⟩
  · rw [if_pos (eq_of_beq g13)] at hT
    refine ⟨⟨by decide, by omega, Int.le_refl _⟩, ⟨by decide, by decide⟩, n1, fun g1 => ?_, fun g1 => ⟨fun p1 => ?_, fun p1 => ⟨fun q1 => ?_, fun q1 => ⟨trivial, fun gm => ?_, fun gm => ?_⟩⟩⟩⟩
    · exact rd_next hI hb (by rw [hT, fill_no g1])
    · exact rd_next hI hb (by rw [hT, fill_lo rfl p1])
    · exact rd_next hI hb (by rw [hT, fill_hi rfl q1])
    · obtain ⟨rfl, rfl⟩ := rd_hit (j := Ins.mk k ((numT w1).1) ((b : Int)) (0) (0)) hI hb hR (by rw [hT, fill_on g1 p1 q1]; exact if_pos gm)
      exact ⟨rfl, rfl, rfl, rfl, rfl, rfl, trivial⟩
    · exact rd_next hI hb (by rw [hT, fill_on g1 p1 q1]; exact if_neg (by show ¬ mayB (Ins.mk k ((numT w1).1) ((b : Int)) (0) (0)) = true; rw [gm]; decide))
  · rw [if_neg (ne_of_beq_false g13)] at hT
    refine ⟨⟨by decide, by omega, Int.le_refl _⟩, ⟨by decide, by decide⟩, n1, fun g1 => ?_, fun g1 => ⟨fun p1 => ?_, fun p1 => ⟨fun q1 => ?_, fun q1 => ⟨trivial, fun gm => ?_, fun gm => ?_⟩⟩⟩⟩
    · exact rd_next hI hb (by rw [hT, fill_no g1])
    · exact rd_next hI hb (by rw [hT, fill_lo rfl p1])
    · exact rd_next hI hb (by rw [hT, fill_hi rfl q1])
    · obtain ⟨rfl, rfl⟩ := rd_hit (j := Ins.mk k ((numT w1).1) (0) (0) (0)) hI hb hR (by rw [hT, fill_on g1 p1 q1]; exact if_pos gm)
      exact ⟨rfl, rfl, rfl, rfl, rfl, rfl, trivial⟩
    · exact rd_next hI hb (by rw [hT, fill_on g1 p1 q1]; exact if_neg (by show ¬ mayB (Ins.mk k ((numT w1).1) (0) (0) (0)) = true; rw [gm]; decide))
theorem rd_10f_ok (s : List UInt8) (hs : s.length ≤ 20000) (i : Ins) (e : AVal) (hR : ReadIs s i e) (k b : Nat) (h : rdJ s [] ⟨k, b⟩) : Paid (cutVC F (lookC l21) 600 Tryz.f21 b21 (rdF s i e) 10 (rdC10 s []) ⟨k, b⟩) := by
  refine ⟨?_⟩
  rw [rd_10f]
  obtain ⟨hI, hb, hf, hw, hl⟩ := h
  have hb : b ≤ 1 := hb
  have hf : fieldsOf k = [] := hf
  have hT := try_is (l := splitL 32 s) (k := k) (b := b) hw (by rw [hf]; exact hl)
  obtain ⟨w0, hws⟩ := len1 (l := splitL 32 s) hl
  have hlen : ∀ w ∈ splitL 32 s, w.length ≤ 100000 := fun w h => by have := splitW_le s w h; omega
  have hp : (splitL 32 s).length = 1 := by rw [hws]; rfl
  rw [hf, hws] at hT
  have hT : tryT (splitL 32 s) k b = match fillT [] [] ⟨k, 0, if (k : Int) = 13 then (b : Int) else 0, 0, 0⟩ with
      | some i => if mayB i = true then some i else none
      | none => none := by rw [hws]; exact hT
  have n13 : ((k : Int) == 13) = false := ne13 hf (by decide)
  rw [if_neg (ne_of_beq_false n13)] at hT
  refine ⟨fun x => absurd (n13.symm.trans x) (by decide), fun g13 => ?_⟩
  refine ⟨⟨by decide, by omega, Int.le_refl _⟩, trivial, fun gm => ?_, fun gm => ?_⟩
  · obtain ⟨rfl, rfl⟩ := rd_hit (j := Ins.mk k (0) (0) (0) (0)) hI hb hR (by rw [hT]; exact if_pos gm)
    exact ⟨rfl, rfl, rfl, rfl, rfl, rfl, trivial⟩
  · exact rd_next hI hb (by rw [hT]; exact if_neg (by show ¬ mayB (Ins.mk k (0) (0) (0) (0)) = true; rw [gm]; decide))
theorem l21Ok : CtrOk F.S (lookC l21) := lookC_ok fun p h => by
  simp only [l21, List.mem_cons, List.not_mem_nil, or_false] at h
  rcases h with rfl | rfl | rfl | rfl
  · exact mayOk
  · exact vbOk
  · exact splitOk
  · exact nmOk
theorem rd_cuts (s : List UInt8) (hs : s.length ≤ 20000) (i : Ins) (e : AVal) (hR : ReadIs s i e) : ∀ p, p ∈ rdCuts s → ∀ x, p.2.I x → Paid (cutVC F (lookC l21) 600 Tryz.f21 b21 (rdF s i e) p.1 p.2 x) := by
  intro p hm x hI
  simp only [rdCuts, List.mem_cons, List.not_mem_nil, or_false] at hm
  rcases hm with rfl | rfl | rfl | rfl | rfl | rfl | rfl
  · exact rd_6_ok s hs i e hR x.k x.b hI
  · exact rd_10a_ok s hs i e hR x.k x.b hI
  · exact rd_10b_ok s hs i e hR x.k x.b hI
  · exact rd_10c_ok s hs i e hR x.k x.b hI
  · exact rd_10d_ok s hs i e hR x.k x.b hI
  · exact rd_10e_ok s hs i e hR x.k x.b hI
  · exact rd_10f_ok s hs i e hR x.k x.b hI
theorem rd1Ok (s : List UInt8) (hs : s.length ≤ 20000) (i : Ins) (e : AVal) (hR : ReadIs s i e) : CtrOk1 F.S 21 (mkCtr (rdD s i e)) :=
  mkCtr_paid (fn := Tryz.f21) (body := b21) (ctr := lookC l21) codOk noExt hookLow l21Ok Tryz.func21 rfl rfl rfl (rdD s i e) 600 (fun _ => rdCuts s) (show 1 ≤ Tryz.f21.ntmps by decide) (show Tryz.f21.ntmps ≤ 512 by decide) (by kernel_rfl) (fun _ _ => ⟨rfl, rfl⟩)
    (fun (x : List UInt8 × Unit) hp => by
      obtain ⟨x, u⟩ := x
      obtain rfl : x = s := hp
      exact rd_e_ok x hs i e) (fun (x : List UInt8 × Unit) hp p hm y hI => rd_cuts s hs i e hR p hm y hI)
/-- text.read, at any line. -/
def readOkB (s : List UInt8) : Bool := (readT (splitL 32 s)).isSome
def readI (s : List UInt8) : Ins := (readT (splitL 32 s)).getD ⟨0, 0, 0, 0, 0⟩
noncomputable def readCtr : Ctr cod := fun wlo args h K => match args with
  | [x] => match strOf x with
    | some s => .need (s.length ≤ 20000) (.fork (readOkB s) (K (.tup [insS (readI s), .a .nili]) h) (K (.tup [insS ⟨0, 0, 0, 0, 0⟩, .a (newV 3)]) h))
    | none => .stuck "read: what"
  | _ => .stuck "read"
theorem readOk : CtrOk1 F.S 21 readCtr := by
  intro E lo wlo args h H K av hh hS hA
  unfold readCtr at hh
  split at hh
  · rename_i x
    split at hh
    · rename_i s hs
      obtain ⟨hl, hh⟩ := hh
      obtain ⟨a0, as1, rfl, h1, hA1⟩ := hA.inv_cons
      obtain rfl := hA1.inv_nil
      obtain rfl := strOf_ok h1 hs
      have go : ∀ (i : Ins) (e : AVal), ReadIs s i e → (K (.tup [insS i, .a e]) h).holds → Out E lo wlo h H (fun v H' => ∃ n, callA F.S (execA F.S n) lo 21 [.str s] H = some (v, H')) K := by
        intro i e hR hh
        refine rd1Ok s hl i e hR E lo wlo [.s s] h H K _ ?_ hS (.cons (.s _) .nil)
        show s = s ∧ (K (.tup [insS i, .a e]) (h ++ [])).holds
        rw [List.append_nil]
        exact ⟨rfl, hh⟩
      rcases fork_cases hh with ⟨ho, hh⟩ | ⟨ho, hh⟩
      · refine go (readI s) .nili (.inl ⟨?_, rfl⟩) hh
        unfold readOkB at ho
        unfold readI
        cases hr : readT (splitL 32 s) with
        | none => rw [hr] at ho; exact nomatch ho
        | some i => rfl
      · refine go ⟨0, 0, 0, 0, 0⟩ (newV 3) (.inr ⟨?_, rfl, rfl⟩) hh
        unfold readOkB at ho
        cases hr : readT (splitL 32 s) with
        | none => rfl
        | some i => rw [hr] at ho; exact nomatch ho
    · exact (stuck_no hh).elim
  · exact (stuck_no hh).elim
end Go.Proofs.YtbbbpnaghipfmaaGreatDoor
