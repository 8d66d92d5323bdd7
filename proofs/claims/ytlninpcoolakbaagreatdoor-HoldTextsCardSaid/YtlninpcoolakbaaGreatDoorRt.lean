/- The document's Text: its contract is paid. -/
import Derived.Test.YtlninpcoolakbaaGreatDoorNv
namespace Go.Proofs.YtlninpcoolakbaaGreatDoor
open Go.RowKit Go.Am Go.Sy
set_option linter.unusedVariables false
set_option linter.unusedSimpArgs false
theorem rt_e (o : Out) : Go.Sy.Tree.holds (entryX F (lookC l7) 600 Tryz.f7 b7 (rtF o) [.agg (enc4 o)]) = ( ∃ (s : RtS), o.logs = o.logs ∧ o.words = o.words ∧ o.owners = o.owners ∧ o.status = o.status ∧ o.queues = o.queues
 ∧ [] = s.acc ∧ (0 : Int) = (↑s.k : Int) ∧ (s.k ≤ o.status.length ∧ s.acc ++ thrsR o.logs s.k (List.drop s.k o.status) = thrsR o.logs (0 : Nat) o.status) ∧ True) := by kernel_rfl
theorem rt_3 (o : Out) (s : RtS) : Go.Sy.Tree.holds (cutVC F (lookC l7) 600 Tryz.f7 b7 (rtF o) 3 (rt3 o) s) = ( (decide ((↑s.k : Int) < (↑o.status.length : Int)) = true → decD.pre ((↑s.k : Int), ()) ∧ (↑([(116 : UInt8),
 104, 114, 101, 97, 100, (32 : UInt8)].length + (decS (↑s.k : Int)).length) : Int) ≤ 9223372036854775807 ∧ (↑(([(116 : UInt8), 104, 114, 101, 97, 100, 32] ++ decS (↑s.k : Int)).length + [(58 : UInt8), 32].length) : Int) ≤
 9223372036854775807 ∧ (↑(s.acc.length + ([(116 : UInt8), 104, 114, 101, 97, 100, (32 : UInt8)] ++ decS (↑s.k : Int) ++ [(58 : UInt8), 32]).length) : Int) ≤ 9223372036854775807 ∧ (decide ((↑s.k : Int) < (↑o.status.length
 : Int)) = true → ((0 : Int) ≤ (↑s.k : Int) ∧ (↑s.k : Int) < (↑o.status.length : Int)) ∧ decD.pre (at0 o.status (↑s.k : Int), ()) ∧ (↑((s.acc ++ ([(116 : UInt8), 104, 114, 101, 97, (100 : UInt8), 32] ++ decS (↑s.k : Int)
 ++ [(58 : UInt8), 32])).length + (decS (at0 o.status (↑s.k : Int))).length) : Int) ≤ 9223372036854775807 ∧ (decide ((↑s.k : Int) < (↑o.logs.length : Int)) = true → ((0 : Int) ≤ (↑s.k : Int) ∧ (↑s.k : Int) <
 (↑o.logs.length : Int)) ∧ nuD.pre (at1 o.logs (↑s.k : Int), ()) ∧ (↑((s.acc ++ ([(116 : UInt8), 104, 114, 101, (97 : UInt8), 100, 32] ++ decS (↑s.k : Int) ++ [(58 : UInt8), 32]) ++ decS (at0 o.status (↑s.k :
 Int))).length + (numsS (at1 o.logs (↑s.k : Int))).length) : Int) ≤ 9223372036854775807 ∧ (↑((s.acc ++ ([(116 : UInt8), 104, 114, 101, (97 : UInt8), 100, 32] ++ decS (↑s.k : Int) ++ [(58 : UInt8), 32]) ++ decS (at0
 o.status (↑s.k : Int)) ++ numsS (at1 o.logs (↑s.k : Int))).length + [(10 : UInt8)].length) : Int) ≤ 9223372036854775807 ∧ ∃ (s_1 : RtS), o.logs = o.logs ∧ o.words = o.words ∧ o.owners = o.owners ∧ o.status = o.status ∧
 o.queues = o.queues ∧ s.acc ++ ([(116 : UInt8), 104, 114, 101, (97 : UInt8), 100, 32] ++ decS (↑s.k : Int) ++ [(58 : UInt8), 32]) ++ decS (at0 o.status (↑s.k : Int)) ++ numsS (at1 o.logs (↑s.k : Int)) ++ [(10 : UInt8)] =
 s_1.acc ∧ IntKind.i64.wrap ((↑s.k : Int) + 1) = (↑s_1.k : Int) ∧ (s_1.k ≤ o.status.length ∧ s_1.acc ++ thrsR o.logs s_1.k (List.drop s_1.k o.status) = thrsR o.logs (0 : Nat) o.status) ∧ (10000 : Nat) + (o.status.length -
 s_1.k) < 10000 + (o.status.length - s.k) ∧ True) ∧ (decide ((↑s.k : Int) < (↑o.logs.length : Int)) = false → (↑((s.acc ++ ([(116 : UInt8), 104, 114, 101, 97, (100 : UInt8), 32] ++ decS (↑s.k : Int) ++ [(58 : UInt8), 32])
 ++ decS (at0 o.status (↑s.k : Int))).length + [(10 : UInt8)].length) : Int) ≤ 9223372036854775807 ∧ ∃ (s_1 : RtS), o.logs = o.logs ∧ o.words = o.words ∧ o.owners = o.owners ∧ o.status = o.status ∧ o.queues = o.queues ∧
 s.acc ++ ([(116 : UInt8), 104, 114, 101, (97 : UInt8), 100, 32] ++ decS (↑s.k : Int) ++ [(58 : UInt8), 32]) ++ decS (at0 o.status (↑s.k : Int)) ++ [(10 : UInt8)] = s_1.acc ∧ IntKind.i64.wrap ((↑s.k : Int) + 1) = (↑s_1.k
 : Int) ∧ (s_1.k ≤ o.status.length ∧ s_1.acc ++ thrsR o.logs s_1.k (List.drop s_1.k o.status) = thrsR o.logs (0 : Nat) o.status) ∧ (10000 : Nat) + (o.status.length - s_1.k) < 10000 + (o.status.length - s.k) ∧ True)) ∧
 (decide ((↑s.k : Int) < (↑o.status.length : Int)) = false → (decide ((↑s.k : Int) < (↑o.logs.length : Int)) = true → ((0 : Int) ≤ (↑s.k : Int) ∧ (↑s.k : Int) < (↑o.logs.length : Int)) ∧ nuD.pre (at1 o.logs (↑s.k : Int),
 ()) ∧ (↑((s.acc ++ ([(116 : UInt8), 104, 114, 101, 97, (100 : UInt8), 32] ++ decS (↑s.k : Int) ++ [(58 : UInt8), 32])).length + (numsS (at1 o.logs (↑s.k : Int))).length) : Int) ≤ 9223372036854775807 ∧ (↑((s.acc ++ ([(116
 : UInt8), 104, 114, 101, 97, (100 : UInt8), 32] ++ decS (↑s.k : Int) ++ [(58 : UInt8), 32]) ++ numsS (at1 o.logs (↑s.k : Int))).length + [(10 : UInt8)].length) : Int) ≤ 9223372036854775807 ∧ ∃ (s_1 : RtS), o.logs =
 o.logs ∧ o.words = o.words ∧ o.owners = o.owners ∧ o.status = o.status ∧ o.queues = o.queues ∧ s.acc ++ ([(116 : UInt8), 104, 114, 101, (97 : UInt8), 100, 32] ++ decS (↑s.k : Int) ++ [(58 : UInt8), 32]) ++ numsS (at1
 o.logs (↑s.k : Int)) ++ [(10 : UInt8)] = s_1.acc ∧ IntKind.i64.wrap ((↑s.k : Int) + 1) = (↑s_1.k : Int) ∧ (s_1.k ≤ o.status.length ∧ s_1.acc ++ thrsR o.logs s_1.k (List.drop s_1.k o.status) = thrsR o.logs (0 : Nat)
 o.status) ∧ (10000 : Nat) + (o.status.length - s_1.k) < 10000 + (o.status.length - s.k) ∧ True) ∧ (decide ((↑s.k : Int) < (↑o.logs.length : Int)) = false → (↑((s.acc ++ ([(116 : UInt8), 104, 114, 101, 97, (100 : UInt8),
 32] ++ decS (↑s.k : Int) ++ [(58 : UInt8), 32])).length + [(10 : UInt8)].length) : Int) ≤ 9223372036854775807 ∧ ∃ (s_1 : RtS), o.logs = o.logs ∧ o.words = o.words ∧ o.owners = o.owners ∧ o.status = o.status ∧ o.queues =
 o.queues ∧ s.acc ++ ([(116 : UInt8), 104, 114, 101, 97, (100 : UInt8), 32] ++ decS (↑s.k : Int) ++ [(58 : UInt8), 32]) ++ [(10 : UInt8)] = s_1.acc ∧ IntKind.i64.wrap ((↑s.k : Int) + 1) = (↑s_1.k : Int) ∧ (s_1.k ≤
 o.status.length ∧ s_1.acc ++ thrsR o.logs s_1.k (List.drop s_1.k o.status) = thrsR o.logs (0 : Nat) o.status) ∧ (10000 : Nat) + (o.status.length - s_1.k) < 10000 + (o.status.length - s.k) ∧ True))) ∧ (decide ((↑s.k :
 Int) < (↑o.status.length : Int)) = false → (decide ((↑s.k : Int) < (↑o.logs.length : Int)) = true → decD.pre ((↑s.k : Int), ()) ∧ (↑([(116 : UInt8), 104, 114, 101, 97, 100, (32 : UInt8)].length + (decS (↑s.k :
 Int)).length) : Int) ≤ 9223372036854775807 ∧ (↑(([(116 : UInt8), 104, 114, 101, 97, 100, (32 : UInt8)] ++ decS (↑s.k : Int)).length + [(58 : UInt8), 32].length) : Int) ≤ 9223372036854775807 ∧ (↑(s.acc.length + ([(116 :
 UInt8), 104, 114, 101, 97, 100, (32 : UInt8)] ++ decS (↑s.k : Int) ++ [(58 : UInt8), 32]).length) : Int) ≤ 9223372036854775807 ∧ (decide ((↑s.k : Int) < (↑o.status.length : Int)) = true → ((0 : Int) ≤ (↑s.k : Int) ∧
 (↑s.k : Int) < (↑o.status.length : Int)) ∧ decD.pre (at0 o.status (↑s.k : Int), ()) ∧ (↑((s.acc ++ ([(116 : UInt8), 104, 114, 101, 97, (100 : UInt8), 32] ++ decS (↑s.k : Int) ++ [(58 : UInt8), 32])).length + (decS (at0
 o.status (↑s.k : Int))).length) : Int) ≤ 9223372036854775807 ∧ (decide ((↑s.k : Int) < (↑o.logs.length : Int)) = true → ((0 : Int) ≤ (↑s.k : Int) ∧ (↑s.k : Int) < (↑o.logs.length : Int)) ∧ nuD.pre (at1 o.logs (↑s.k :
 Int), ()) ∧ (↑((s.acc ++ ([(116 : UInt8), 104, 114, 101, (97 : UInt8), 100, 32] ++ decS (↑s.k : Int) ++ [(58 : UInt8), 32]) ++ decS (at0 o.status (↑s.k : Int))).length + (numsS (at1 o.logs (↑s.k : Int))).length) : Int) ≤
 9223372036854775807 ∧ (↑((s.acc ++ ([(116 : UInt8), 104, 114, 101, (97 : UInt8), 100, 32] ++ decS (↑s.k : Int) ++ [(58 : UInt8), 32]) ++ decS (at0 o.status (↑s.k : Int)) ++ numsS (at1 o.logs (↑s.k : Int))).length + [(10
 : UInt8)].length) : Int) ≤ 9223372036854775807 ∧ ∃ (s_1 : RtS), o.logs = o.logs ∧ o.words = o.words ∧ o.owners = o.owners ∧ o.status = o.status ∧ o.queues = o.queues ∧ s.acc ++ ([(116 : UInt8), 104, 114, (101 : UInt8),
 97, 100, (32 : UInt8)] ++ decS (↑s.k : Int) ++ [(58 : UInt8), 32]) ++ decS (at0 o.status (↑s.k : Int)) ++ numsS (at1 o.logs (↑s.k : Int)) ++ [(10 : UInt8)] = s_1.acc ∧ IntKind.i64.wrap ((↑s.k : Int) + 1) = (↑s_1.k : Int)
 ∧ (s_1.k ≤ o.status.length ∧ s_1.acc ++ thrsR o.logs s_1.k (List.drop s_1.k o.status) = thrsR o.logs (0 : Nat) o.status) ∧ (10000 : Nat) + (o.status.length - s_1.k) < 10000 + (o.status.length - s.k) ∧ True) ∧ (decide
 ((↑s.k : Int) < (↑o.logs.length : Int)) = false → (↑((s.acc ++ ([(116 : UInt8), 104, 114, 101, (97 : UInt8), 100, 32] ++ decS (↑s.k : Int) ++ [(58 : UInt8), 32]) ++ decS (at0 o.status (↑s.k : Int))).length + [(10 :
 UInt8)].length) : Int) ≤ 9223372036854775807 ∧ ∃ (s_1 : RtS), o.logs = o.logs ∧ o.words = o.words ∧ o.owners = o.owners ∧ o.status = o.status ∧ o.queues = o.queues ∧ s.acc ++ ([(116 : UInt8), 104, 114, 101, (97 : UInt8),
 100, 32] ++ decS (↑s.k : Int) ++ [(58 : UInt8), 32]) ++ decS (at0 o.status (↑s.k : Int)) ++ [(10 : UInt8)] = s_1.acc ∧ IntKind.i64.wrap ((↑s.k : Int) + 1) = (↑s_1.k : Int) ∧ (s_1.k ≤ o.status.length ∧ s_1.acc ++ thrsR
 o.logs s_1.k (List.drop s_1.k o.status) = thrsR o.logs (0 : Nat) o.status) ∧ (10000 : Nat) + (o.status.length - s_1.k) < 10000 + (o.status.length - s.k) ∧ True)) ∧ (decide ((↑s.k : Int) < (↑o.status.length : Int)) =
 false → (decide ((↑s.k : Int) < (↑o.logs.length : Int)) = true → ((0 : Int) ≤ (↑s.k : Int) ∧ (↑s.k : Int) < (↑o.logs.length : Int)) ∧ nuD.pre (at1 o.logs (↑s.k : Int), ()) ∧ (↑((s.acc ++ ([(116 : UInt8), 104, 114, 101,
 97, (100 : UInt8), 32] ++ decS (↑s.k : Int) ++ [(58 : UInt8), 32])).length + (numsS (at1 o.logs (↑s.k : Int))).length) : Int) ≤ 9223372036854775807 ∧ (↑((s.acc ++ ([(116 : UInt8), 104, 114, 101, (97 : UInt8), 100, 32] ++
 decS (↑s.k : Int) ++ [(58 : UInt8), 32]) ++ numsS (at1 o.logs (↑s.k : Int))).length + [(10 : UInt8)].length) : Int) ≤ 9223372036854775807 ∧ ∃ (s_1 : RtS), o.logs = o.logs ∧ o.words = o.words ∧ o.owners = o.owners ∧
 o.status = o.status ∧ o.queues = o.queues ∧ s.acc ++ ([(116 : UInt8), 104, 114, 101, (97 : UInt8), 100, 32] ++ decS (↑s.k : Int) ++ [(58 : UInt8), 32]) ++ numsS (at1 o.logs (↑s.k : Int)) ++ [(10 : UInt8)] = s_1.acc ∧
 IntKind.i64.wrap ((↑s.k : Int) + 1) = (↑s_1.k : Int) ∧ (s_1.k ≤ o.status.length ∧ s_1.acc ++ thrsR o.logs s_1.k (List.drop s_1.k o.status) = thrsR o.logs (0 : Nat) o.status) ∧ (10000 : Nat) + (o.status.length - s_1.k) <
 10000 + (o.status.length - s.k) ∧ True) ∧ (decide ((↑s.k : Int) < (↑o.logs.length : Int)) = false → (↑((s.acc ++ ([(116 : UInt8), 104, 114, 101, 97, (100 : UInt8), 32] ++ decS (↑s.k : Int) ++ [(58 : UInt8), 32])).length
 + [(10 : UInt8)].length) : Int) ≤ 9223372036854775807 ∧ ∃ (s_1 : RtS), o.logs = o.logs ∧ o.words = o.words ∧ o.owners = o.owners ∧ o.status = o.status ∧ o.queues = o.queues ∧ s.acc ++ ([(116 : UInt8), 104, 114, 101, (97
 : UInt8), 100, 32] ++ decS (↑s.k : Int) ++ [(58 : UInt8), 32]) ++ [(10 : UInt8)] = s_1.acc ∧ IntKind.i64.wrap ((↑s.k : Int) + 1) = (↑s_1.k : Int) ∧ (s_1.k ≤ o.status.length ∧ s_1.acc ++ thrsR o.logs s_1.k (List.drop
 s_1.k o.status) = thrsR o.logs (0 : Nat) o.status) ∧ (10000 : Nat) + (o.status.length - s_1.k) < 10000 + (o.status.length - s.k) ∧ True))) ∧ (decide ((↑s.k : Int) < (↑o.logs.length : Int)) = false → nuD.pre (o.words, ())
 ∧ (↑([(119 : UInt8), 111, 114, 100, 115].length + (numsS o.words).length) : Int) ≤ 9223372036854775807 ∧ (↑(([(119 : UInt8), 111, 114, 100, 115] ++ numsS o.words).length + [(10 : UInt8), 111, 119, 110, 101, 114, (115 :
 UInt8)].length) : Int) ≤ 9223372036854775807 ∧ nuD.pre (o.owners, ()) ∧ (↑(([(119 : UInt8), 111, 114, 100, 115] ++ numsS o.words ++ [(10 : UInt8), 111, 119, 110, 101, 114, (115 : UInt8)]).length + (numsS
 o.owners).length) : Int) ≤ 9223372036854775807 ∧ (↑(([(119 : UInt8), 111, 114, 100, 115] ++ numsS o.words ++ [(10 : UInt8), 111, 119, 110, 101, (114 : UInt8), 115] ++ numsS o.owners).length + [(10 : UInt8)].length) :
 Int) ≤ 9223372036854775807 ∧ (↑(s.acc.length + ([(119 : UInt8), 111, 114, 100, 115] ++ numsS o.words ++ [(10 : UInt8), 111, 119, 110, 101, (114 : UInt8), 115] ++ numsS o.owners ++ [(10 : UInt8)]).length) : Int) ≤
 9223372036854775807 ∧ ∃ (s_1 : RtS), o.logs = o.logs ∧ o.words = o.words ∧ o.owners = o.owners ∧ o.status = o.status ∧ o.queues = o.queues ∧ s.acc ++ ([(119 : UInt8), 111, 114, 100, 115] ++ numsS o.words ++ [(10 :
 UInt8), 111, 119, 110, 101, (114 : UInt8), 115] ++ numsS o.owners ++ [(10 : UInt8)]) = s_1.acc ∧ (0 : Int) = (↑s_1.k : Int) ∧ (s_1.k ≤ o.queues.length ∧ s_1.acc ++ quesR s_1.k (List.drop s_1.k o.queues) = textR (oc o)) ∧
 o.queues.length - s_1.k < 10000 + (o.status.length - s.k) ∧ True))) := by kernel_rfl
theorem rt_13 (o : Out) (s : RtS) : Go.Sy.Tree.holds (cutVC F (lookC l7) 600 Tryz.f7 b7 (rtF o) 13 (rt13 o) s) = ( (decide ((↑s.k : Int) < (↑o.queues.length : Int)) = true → decD.pre ((↑s.k : Int), ()) ∧ (↑([(113 :
 UInt8), 117, 101, 117, 101, 32].length + (decS (↑s.k : Int)).length) : Int) ≤ 9223372036854775807 ∧ ((0 : Int) ≤ (↑s.k : Int) ∧ (↑s.k : Int) < (↑o.queues.length : Int)) ∧ nuD.pre (at1 o.queues (↑s.k : Int), ()) ∧
 (↑(([(113 : UInt8), 117, 101, 117, 101, 32] ++ decS (↑s.k : Int)).length + (numsS (at1 o.queues (↑s.k : Int))).length) : Int) ≤ 9223372036854775807 ∧ (↑(([(113 : UInt8), 117, 101, 117, 101, 32] ++ decS (↑s.k : Int) ++
 numsS (at1 o.queues (↑s.k : Int))).length + [(10 : UInt8)].length) : Int) ≤ 9223372036854775807 ∧ (↑(s.acc.length + ([(113 : UInt8), 117, 101, 117, 101, 32] ++ decS (↑s.k : Int) ++ numsS (at1 o.queues (↑s.k : Int)) ++
 [(10 : UInt8)]).length) : Int) ≤ 9223372036854775807 ∧ ∃ (s_1 : RtS), o.logs = o.logs ∧ o.words = o.words ∧ o.owners = o.owners ∧ o.status = o.status ∧ o.queues = o.queues ∧ s.acc ++ ([(113 : UInt8), 117, 101, 117, 101,
 (32 : UInt8)] ++ decS (↑s.k : Int) ++ numsS (at1 o.queues (↑s.k : Int)) ++ [(10 : UInt8)]) = s_1.acc ∧ IntKind.i64.wrap ((↑s.k : Int) + 1) = (↑s_1.k : Int) ∧ (s_1.k ≤ o.queues.length ∧ s_1.acc ++ quesR s_1.k (List.drop
 s_1.k o.queues) = textR (oc o)) ∧ o.queues.length - s_1.k < o.queues.length - s.k ∧ True) ∧ (decide ((↑s.k : Int) < (↑o.queues.length : Int)) = false → s.acc = textR (oc o) ∧ True)) := by kernel_rfl
theorem decS_nat (k : Nat) (h : k ≤ 2000) : decS (k : Int) = Lib.itoa (k : Int) := decS_is (by omega) (by omega)
theorem thr_is {o : Out} {k : Nat} (hb : OutOk (oc o)) (hk : k < o.status.length) (hl : k < o.logs.length) :
    thrR o.logs k o.status[k] = [116, 104, 114, 101, 97, 100, 32] ++ decS (k : Int) ++ [58, 32] ++ decS o.status[k] ++ numsS o.logs[k] ++ [10] := by
  have h1 := okB_is ((listB_is hb.status).2 o.status[k] (List.getElem_mem hk))
  have h2 := (listB_is hb.status).1
  have h2 : o.status.length ≤ 1000 := h2
  have h3 := (listB_is (hb.logs.2 o.logs[k] (List.getElem_mem hl))).2
  have e : o.logs.getD k [] = o.logs[k] := by rw [List.getD_eq_getElem?_getD, List.getElem?_eq_getElem hl]; rfl
  rw [decS_nat k (by omega), decS_is h1.1 h1.2, numsS_is h3]
  simp only [thrR, lineR, thrB, e, List.append_assoc]
theorem que_is {o : Out} {k : Nat} (hb : OutOk (oc o)) (hk : k < o.queues.length) :
    lineR (queB ++ Lib.itoa (k : Int)) o.queues[k] = [113, 117, 101, 117, 101, 32] ++ decS (k : Int) ++ numsS o.queues[k] ++ [10] := by
  have h2 : o.queues.length ≤ 1000 := hb.queues.1
  have h3 := (listB_is (hb.queues.2 o.queues[k] (List.getElem_mem hk))).2
  rw [decS_nat k (by omega), numsS_is h3]
  simp only [lineR, queB, List.append_assoc]
theorem mid_is {o : Out} (hb : OutOk (oc o)) : lineR wordsB o.words ++ lineR ownB o.owners = [119, 111, 114, 100, 115] ++ numsS o.words ++ [10, 111, 119, 110, 101, 114, 115] ++ numsS o.owners ++ [10] := by
  have h1 : ∀ n ∈ o.words, okB n = true := (listB_is hb.words).2
  have h2 : ∀ n ∈ o.owners, okB n = true := (listB_is hb.owners).2
  rw [numsS_is h1, numsS_is h2]
  simp only [lineR, wordsB, ownB, List.append_assoc]
  rfl
theorem len_acc {o : Out} (hb : OutOk (oc o)) {k : Nat} {acc : List UInt8} (h : acc ++ thrsR o.logs k (o.status.drop k) = thrsR o.logs 0 o.status) : acc.length ≤ 50000000 := by
  have h1 := thrs_len (t := 0) hb.logs.2 (listB_is hb.status).2 (by have := (listB_is hb.status).1; omega)
  have h2 := (listB_is hb.status).1
  have e := congrArg List.length h
  rw [List.length_append] at e
  have h1 : (thrsR o.logs 0 o.status).length ≤ 23000 * o.status.length := h1
  have h2 : o.status.length ≤ 1000 := h2
  omega
theorem len_acc2 {o : Out} (hb : OutOk (oc o)) {k : Nat} {acc : List UInt8} (h : acc ++ quesR k (o.queues.drop k) = textR (oc o)) : acc.length ≤ 50000000 := by
  have h1 := text_len hb
  have e := congrArg List.length h
  rw [List.length_append] at e
  omega
theorem rtE_ok (o : Out) : Paid (entryX F (lookC l7) 600 Tryz.f7 b7 (rtF o) [.agg (enc4 o)]) := by
  refine ⟨?_⟩
  rw [rt_e]
  exact ⟨⟨0, []⟩, rfl, rfl, rfl, rfl, rfl, rfl, rfl, ⟨Nat.zero_le _, rfl⟩, trivial⟩
theorem rt3_ok (o : Out) (hp : outOk o) (k : Nat) (acc : List UInt8) (hk : k ≤ o.status.length) (hi : acc ++ thrsR o.logs k (o.status.drop k) = thrsR o.logs 0 o.status) :
    Paid (cutVC F (lookC l7) 600 Tryz.f7 b7 (rtF o) 3 (rt3 o) ⟨k, acc⟩) := by
  refine ⟨?_⟩
  rw [rt_3]
  dsimp only
  obtain ⟨hb, hl⟩ := hp
  have hb := outB_is hb
  have hacc := len_acc hb hi
  have hs : o.status.length ≤ 1000 := (listB_is hb.status).1
  have hdk := decS_len (k : Int)
  refine ⟨fun h => ?_, fun h => ?_⟩
  · simp only [decide_eq_true_eq] at h
    have hlt : k < o.status.length := by omega
    have hll : k < o.logs.length := by omega
    have h1 := decS_len o.status[k]
    have h2 := numsS_len o.logs[k]
    have h3 : o.logs[k].length ≤ 1000 := (listB_is (hb.logs.2 o.logs[k] (List.getElem_mem hll))).1
    have e1 := thr_is hb hlt hll
    have e2 := thrs_step o.logs o.status k o.status[k] (List.getElem?_eq_getElem hlt)
    rw [at0_get hlt, at1_get hll]
    refine ⟨trivial, by simp only [List.length_append, List.length_cons, List.length_nil]; omega, by simp only [List.length_append, List.length_cons, List.length_nil]; omega,
      by simp only [List.length_append, List.length_cons, List.length_nil]; omega, fun _ => ⟨⟨by omega, h⟩, trivial, by simp only [List.length_append, List.length_cons, List.length_nil]; omega, fun _ => ⟨⟨by omega, by omega⟩, h3,
        by simp only [List.length_append, List.length_cons, List.length_nil]; omega, by simp only [List.length_append, List.length_cons, List.length_nil]; omega,
        ⟨k + 1, _⟩, rfl, rfl, rfl, rfl, rfl, rfl, succ64 (by omega), ⟨hlt, ?_⟩, by show 10000 + (o.status.length - (k + 1)) < 10000 + (o.status.length - k); omega, trivial⟩, fun h5 => ?_⟩, fun h5 => ?_⟩
    · rw [← hi, e2, e1]
      simp only [List.append_assoc]
    · rw [decide_eq_false_iff_not] at h5
      exact absurd (show (k : Int) < (o.logs.length : Int) by omega) h5
    · rw [decide_eq_false_iff_not] at h5
      exact absurd h h5
  · simp only [decide_eq_false_iff_not] at h
    have hke : k = o.status.length := by omega
    refine ⟨fun h5 => ?_, fun _ => ?_⟩
    · simp only [decide_eq_true_eq] at h5
      omega
    · have w0 : o.words.length ≤ 1000 := (listB_is hb.words).1
      have w1 : o.owners.length ≤ 1000 := (listB_is hb.owners).1
      have w2 := numsS_len o.words
      have w3 := numsS_len o.owners
      refine ⟨w0, by simp only [List.length_append, List.length_cons, List.length_nil]; omega, by simp only [List.length_append, List.length_cons, List.length_nil]; omega, w1,
        by simp only [List.length_append, List.length_cons, List.length_nil]; omega, by simp only [List.length_append, List.length_cons, List.length_nil]; omega, by simp only [List.length_append, List.length_cons, List.length_nil]; omega,
        ⟨0, _⟩, rfl, rfl, rfl, rfl, rfl, rfl, rfl, ⟨Nat.zero_le _, ?_⟩, by show o.queues.length - 0 < 10000 + (o.status.length - k); have : o.queues.length ≤ 1000 := hb.queues.1; omega, trivial⟩
      have ea : acc = thrsR o.logs 0 o.status := by
        rw [hke, List.drop_length] at hi
        rw [← hi]
        simp [thrsR]
      rw [ea, ← mid_is hb]
      show _ = textR (oc o)
      simp only [textR, oc, List.append_assoc, List.drop_zero]
theorem rt13_ok (o : Out) (hp : outOk o) (k : Nat) (acc : List UInt8) (hk : k ≤ o.queues.length) (hi : acc ++ quesR k (o.queues.drop k) = textR (oc o)) :
    Paid (cutVC F (lookC l7) 600 Tryz.f7 b7 (rtF o) 13 (rt13 o) ⟨k, acc⟩) := by
  refine ⟨?_⟩
  rw [rt_13]
  dsimp only
  obtain ⟨hb, hl⟩ := hp
  have hb := outB_is hb
  have hacc := len_acc2 hb hi
  have hs : o.queues.length ≤ 1000 := hb.queues.1
  have hdk := decS_len (k : Int)
  refine ⟨fun h => ?_, fun h => ?_⟩
  · simp only [decide_eq_true_eq] at h
    have hlt : k < o.queues.length := by omega
    have h2 := numsS_len o.queues[k]
    have h3 : o.queues[k].length ≤ 1000 := (listB_is (hb.queues.2 o.queues[k] (List.getElem_mem hlt))).1
    have e1 := que_is hb hlt
    have e2 := ques_step o.queues k o.queues[k] (List.getElem?_eq_getElem hlt)
    rw [at1_get hlt]
    refine ⟨trivial, by simp only [List.length_append, List.length_cons, List.length_nil]; omega, ⟨by omega, h⟩, h3, by simp only [List.length_append, List.length_cons, List.length_nil]; omega,
      by simp only [List.length_append, List.length_cons, List.length_nil]; omega, by simp only [List.length_append, List.length_cons, List.length_nil]; omega,
      ⟨k + 1, _⟩, rfl, rfl, rfl, rfl, rfl, rfl, succ64 (by omega), ⟨hlt, ?_⟩, by show o.queues.length - (k + 1) < o.queues.length - k; omega, trivial⟩
    rw [← hi, e2, e1]
    simp only [List.append_assoc]
  · simp only [decide_eq_false_iff_not] at h
    have hke : k = o.queues.length := by omega
    refine ⟨?_, trivial⟩
    rw [hke, List.drop_length] at hi
    rw [← hi]
    simp [quesR]
theorem l7Ok : CtrOk F.S (lookC l7) := lookC_ok fun p h => by
  have h : p ∈ [_, _, _] := h
  simp only [List.mem_cons, List.not_mem_nil, or_false] at h
  rcases h with rfl | rfl | rfl
  · exact decOk
  · exact numsOk
  · exact intsOk
theorem rtOk : CtrOk1 F.S 7 (mkCtr rtD) :=
  mkCtr_paid (fn := Tryz.f7) (body := b7) (ctr := lookC l7) codOk noExt hookLow l7Ok Tryz.func7 rfl rfl rfl rtD 600 (fun (x : Out × Unit) => [(3, rt3 x.1), (13, rt13 x.1)]) (show 1 ≤ Tryz.f7.ntmps by decide) (show Tryz.f7.ntmps ≤ 512 by decide) (by kernel_rfl)
    (fun x _ => ⟨rfl, rfl⟩) (fun (x : Out × Unit) hp => rtE_ok x.1) (fun (x : Out × Unit) hp p hm s hI => by
      simp only [List.mem_cons, List.not_mem_nil, or_false] at hm
      rcases hm with rfl | rfl
      · obtain ⟨k, acc⟩ := s
        exact rt3_ok x.1 hp k acc hI.1 hI.2
      · obtain ⟨k, acc⟩ := s
        exact rt13_ok x.1 hp k acc hI.1 hI.2)
end Go.Proofs.YtlninpcoolakbaaGreatDoor
