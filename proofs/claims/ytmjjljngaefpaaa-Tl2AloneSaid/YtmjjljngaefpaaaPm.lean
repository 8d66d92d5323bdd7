/- Where words stand, and marks: the contracts are paid. Printed by a program (gen_pl.py). -/
import Derived.Test.YtmjjljngaefpaaaPl
namespace Go.Proofs.Ytmjjljngaefpaaa
open Go.RowKit Go.Am Go.Sy
set_option linter.unusedVariables false
set_option linter.unusedSimpArgs false
theorem may_e : Go.Sy.Tree.holds (entryX F (lookC l51) 400 Try.f51 b51 ⟨[], mayD.res ((mp0, ()) : Mp × Unit), []⟩ [.agg (enc4 mp0)]) = ( (true = true → (true = true → (true = true → (true = true → (true = true → (true =
 true → (true = true → (true = true → (true = true → AVal.bool true = AVal.bool true ∧ True) ∧ (true = false → constA (Value.bool false) = AVal.bool true ∧ True)) ∧ (true = false → constA (Value.bool false) = AVal.bool
 true ∧ True)) ∧ (true = false → constA (Value.bool false) = AVal.bool true ∧ True)) ∧ (true = false → constA (Value.bool false) = AVal.bool true ∧ True)) ∧ (true = false → constA (Value.bool false) = AVal.bool true ∧
 True)) ∧ (true = false → constA (Value.bool false) = AVal.bool true ∧ True)) ∧ (true = false → constA (Value.bool false) = AVal.bool true ∧ True)) ∧ (true = false → constA (Value.bool false) = AVal.bool true ∧ True)) ∧
 (true = false → constA (Value.bool false) = AVal.bool true ∧ True)) := by kernel_rfl
theorem starts_e : Go.Sy.Tree.holds (entryX F (lookC l53) 400 Try.f53 b53 ⟨[], startsD.res ((mp0, ()) : Mp × Unit), []⟩ [.agg (enc4 mp0)]) = ( constA (Value.int IntKind.i64 (2 : Int)) = AVal.int IntKind.i64 (2 : Int) ∧
 AVal.int IntKind.i64 (5 : Int) = AVal.int IntKind.i64 (5 : Int) ∧ AVal.int IntKind.i64 (11 : Int) = AVal.int IntKind.i64 (11 : Int) ∧ AVal.int IntKind.i64 (17 : Int) = AVal.int IntKind.i64 (17 : Int) ∧ AVal.int
 IntKind.i64 (23 : Int) = AVal.int IntKind.i64 (23 : Int) ∧ AVal.int IntKind.i64 (26 : Int) = AVal.int IntKind.i64 (26 : Int) ∧ AVal.int IntKind.i64 (26 : Int) = AVal.int IntKind.i64 (26 : Int) ∧ AVal.int IntKind.i64 (34
 : Int) = AVal.int IntKind.i64 (34 : Int) ∧ True) := by kernel_rfl
theorem data_e (d : Int) : Go.Sy.Tree.holds (entryX F (lookC l17) 400 Try.f17 b17 ⟨[], dataD.res ((mp0, d, ()) : Mp × Int × Unit), []⟩ [.agg (enc4 mp0), .i .i64 (d)]) = ( mayD.pre (Mp.mk mp0.ms mp0.ml mp0.mt mp0.mc
 mp0.md, ()) ∧ (decide (d ≥ (0 : Int)) = true → ((!decide (d < mp0.md)) = true → (-1 : Int) = 26 + 2 * d ∧ True) ∧ ((!decide (d < mp0.md)) = false → startsD.pre (Mp.mk mp0.ms mp0.ml mp0.mt mp0.mc mp0.md, ()) ∧
 IntKind.i64.wrap ((26 : Int) + IntKind.i64.wrap ((2 : Int) * d)) = 26 + 2 * d ∧ True)) ∧ (decide (d ≥ (0 : Int)) = false → (-1 : Int) = 26 + 2 * d ∧ True)) := by kernel_rfl
theorem stripe_e (d : Int) : Go.Sy.Tree.holds (entryX F (lookC l18) 400 Try.f18 b18 ⟨[], stripeD.res ((mp0, d, ()) : Mp × Int × Unit), []⟩ [.agg (enc4 mp0), .i .i64 (d)]) = ( mayD.pre (Mp.mk mp0.ms mp0.ml mp0.mt mp0.mc
 mp0.md, ()) ∧ (decide (d ≥ (0 : Int)) = true → ((!decide (d < mp0.ms)) = true → (-1 : Int) = 2 + d ∧ True) ∧ ((!decide (d < mp0.ms)) = false → startsD.pre (Mp.mk mp0.ms mp0.ml mp0.mt mp0.mc mp0.md, ()) ∧ IntKind.i64.wrap
 ((2 : Int) + d) = 2 + d ∧ True)) ∧ (decide (d ≥ (0 : Int)) = false → (-1 : Int) = 2 + d ∧ True)) := by kernel_rfl
theorem thread_e : Go.Sy.Tree.holds (entryX F (lookC l21) 400 Try.f21 b21 ⟨[], threadD.res ((mp0, 1, 0, ()) : Mp × Int × Int × Unit), []⟩ [.agg (enc4 mp0), .i .i64 (1), .i .i64 (0)]) = ( mayD.pre (Mp.mk mp0.ms mp0.ml
 mp0.mt mp0.mc mp0.md, ()) ∧ (true = true → (false = true → constA (Value.int IntKind.i64 (-1 : Int)) = AVal.int IntKind.i64 (13 : Int) ∧ True) ∧ (false = false → (true = true → (false = true → constA (Value.int
 IntKind.i64 (-1 : Int)) = AVal.int IntKind.i64 (13 : Int) ∧ True) ∧ (false = false → startsD.pre (Mp.mk mp0.ms mp0.ml mp0.mt mp0.mc mp0.md, ()) ∧ AVal.int IntKind.i64 (13 : Int) = AVal.int IntKind.i64 (13 : Int) ∧ True))
 ∧ (true = false → constA (Value.int IntKind.i64 (-1 : Int)) = AVal.int IntKind.i64 (13 : Int) ∧ True))) ∧ (true = false → constA (Value.int IntKind.i64 (-1 : Int)) = AVal.int IntKind.i64 (13 : Int) ∧ True)) := by
 kernel_rfl
theorem seq_e : Go.Sy.Tree.holds (entryX F (lookC l22) 400 Try.f22 b22 ⟨[], seqD.res ((mp0, ()) : Mp × Unit), []⟩ [.agg (enc4 mp0)]) = ( mayD.pre (Mp.mk mp0.ms mp0.ml mp0.mt mp0.mc mp0.md, ()) ∧ constA (Value.int
 IntKind.i64 (1 : Int)) = AVal.int IntKind.i64 (1 : Int) ∧ True) := by kernel_rfl
theorem clock_e : Go.Sy.Tree.holds (entryX F (lookC l28) 400 Try.f28 b28 ⟨[], clockD.res ((mp0, ()) : Mp × Unit), []⟩ [.agg (enc4 mp0)]) = ( mayD.pre (Mp.mk mp0.ms mp0.ml mp0.mt mp0.mc mp0.md, ()) ∧ constA (Value.int
 IntKind.i64 (0 : Int)) = AVal.int IntKind.i64 (0 : Int) ∧ True) := by kernel_rfl
theorem size_e : Go.Sy.Tree.holds (entryX F (lookC l43) 400 Try.f43 b43 ⟨[], sizeD.res ((mp0, ()) : Mp × Unit), []⟩ [.agg (enc4 mp0)]) = ( mayD.pre (Mp.mk mp0.ms mp0.ml mp0.mt mp0.mc mp0.md, ()) ∧ startsD.pre (Mp.mk
 mp0.ms mp0.ml mp0.mt mp0.mc mp0.md, ()) ∧ AVal.int IntKind.i64 (34 : Int) = AVal.int IntKind.i64 (34 : Int) ∧ True) := by kernel_rfl
theorem hash_e0 : Go.Sy.Tree.holds (entryX F (lookC l56) 400 Try.f56 b56 ⟨[], hashD.res ((mp0, 26, ()) : Mp × Int × Unit), []⟩ [.agg (enc4 mp0), .i .i64 (26)]) = ( sizeD.pre (Mp.mk mp0.ms mp0.ml mp0.mt mp0.mc mp0.md, ())
 ∧ (true = true → (false = true → (-1 : Int) = hashT (26 : Int) ∧ True) ∧ (false = false → (0 : Int) ≤ 4 ∧ mp0.ms ≠ (0 : Int) ∧ (0 : Int) = hashT (26 : Int) ∧ True)) ∧ (true = false → (-1 : Int) = hashT (26 : Int) ∧
 True)) := by kernel_rfl
theorem hash_e1 : Go.Sy.Tree.holds (entryX F (lookC l56) 400 Try.f56 b56 ⟨[], hashD.res ((mp0, 28, ()) : Mp × Int × Unit), []⟩ [.agg (enc4 mp0), .i .i64 (28)]) = ( sizeD.pre (Mp.mk mp0.ms mp0.ml mp0.mt mp0.mc mp0.md, ())
 ∧ (true = true → (false = true → (-1 : Int) = hashT (28 : Int) ∧ True) ∧ (false = false → (0 : Int) ≤ 4 ∧ mp0.ms ≠ (0 : Int) ∧ (2 : Int) = hashT (28 : Int) ∧ True)) ∧ (true = false → (-1 : Int) = hashT (28 : Int) ∧
 True)) := by kernel_rfl
theorem hash_e2 : Go.Sy.Tree.holds (entryX F (lookC l56) 400 Try.f56 b56 ⟨[], hashD.res ((mp0, 30, ()) : Mp × Int × Unit), []⟩ [.agg (enc4 mp0), .i .i64 (30)]) = ( sizeD.pre (Mp.mk mp0.ms mp0.ml mp0.mt mp0.mc mp0.md, ())
 ∧ (true = true → (false = true → (-1 : Int) = hashT (30 : Int) ∧ True) ∧ (false = false → (0 : Int) ≤ 4 ∧ mp0.ms ≠ (0 : Int) ∧ (1 : Int) = hashT (30 : Int) ∧ True)) ∧ (true = false → (-1 : Int) = hashT (30 : Int) ∧
 True)) := by kernel_rfl
theorem hash_e3 : Go.Sy.Tree.holds (entryX F (lookC l56) 400 Try.f56 b56 ⟨[], hashD.res ((mp0, 32, ()) : Mp × Int × Unit), []⟩ [.agg (enc4 mp0), .i .i64 (32)]) = ( sizeD.pre (Mp.mk mp0.ms mp0.ml mp0.mt mp0.mc mp0.md, ())
 ∧ (true = true → (false = true → (-1 : Int) = hashT (32 : Int) ∧ True) ∧ (false = false → (0 : Int) ≤ 4 ∧ mp0.ms ≠ (0 : Int) ∧ (1 : Int) = hashT (32 : Int) ∧ True)) ∧ (true = false → (-1 : Int) = hashT (32 : Int) ∧
 True)) := by kernel_rfl
theorem fresh_e (s : Int) : Go.Sy.Tree.holds (entryX F (lookC l70) 400 Try.f70 b70 ⟨[], freshD.res ((0, s, ()) : Int × Int × Unit), []⟩ [.i .i64 (0), .i .i64 (s)]) = ( (false = true → constA (Value.int IntKind.i64 (1 :
 Int)) = AVal.int IntKind.i64 (0 : Int) ∧ True) ∧ (false = false → (0 : Int) ≤ 4 ∧ (decide (Int.fdiv (0 : Int) (16 : Int) > s) = true → constA (Value.int IntKind.i64 (2 : Int)) = AVal.int IntKind.i64 (0 : Int) ∧ True) ∧
 (decide (Int.fdiv (0 : Int) (16 : Int) > s) = false → constA (Value.int IntKind.i64 (0 : Int)) = AVal.int IntKind.i64 (0 : Int) ∧ True))) := by kernel_rfl
theorem holder_e0 : Go.Sy.Tree.holds (entryX F (lookC l90) 400 Try.f90 b90 ⟨[], holderD.res ((0, ()) : Int × Unit), []⟩ [.i .i64 (0)]) = ( ((-1 : Int) = if (0 : Int) = 0 then (-1 : Int) else (1 : Int)) ∧ True) := by
 kernel_rfl
theorem holder_e1 : Go.Sy.Tree.holds (entryX F (lookC l90) 400 Try.f90 b90 ⟨[], holderD.res ((2, ()) : Int × Unit), []⟩ [.i .i64 (2)]) = ( ((1 : Int) = if (2 : Int) = 0 then (-1 : Int) else (1 : Int)) ∧ True) := by
 kernel_rfl
theorem version_e0 : Go.Sy.Tree.holds (entryX F (lookC l91) 400 Try.f91 b91 ⟨[], versionD.res ((0, ()) : Int × Unit), []⟩ [.i .i64 (0)]) = ( (0 : Int) ≤ 4 ∧ AVal.int IntKind.i64 (Int.fdiv (0 : Int) (16 : Int)) = AVal.int
 IntKind.i64 (0 : Int) ∧ True) := by kernel_rfl
theorem version_e1 : Go.Sy.Tree.holds (entryX F (lookC l91) 400 Try.f91 b91 ⟨[], versionD.res ((2, ()) : Int × Unit), []⟩ [.i .i64 (2)]) = ( (0 : Int) ≤ 4 ∧ AVal.int IntKind.i64 (Int.fdiv (2 : Int) (16 : Int)) = AVal.int
 IntKind.i64 (0 : Int) ∧ True) := by kernel_rfl
theorem taken_e : Go.Sy.Tree.holds (entryX F (lookC l94) 400 Try.f94 b94 ⟨[], takenD.res ((0, 1, ()) : Int × Int × Unit), []⟩ [.i .i64 (0), .i .i64 (1)]) = ( (false = true → AVal.int IntKind.i64 (0 : Int) = AVal.int
 IntKind.i64 (2 : Int) ∧ True) ∧ (false = false → (false = true → AVal.int IntKind.i64 (0 : Int) = AVal.int IntKind.i64 (2 : Int) ∧ True) ∧ (false = false → AVal.int IntKind.i64 (2 : Int) = AVal.int IntKind.i64 (2 : Int)
 ∧ True))) := by kernel_rfl
theorem free_e : Go.Sy.Tree.holds (entryX F (lookC l98) 400 Try.f98 b98 ⟨[], freeD.res ((1, ()) : Int × Unit), []⟩ [.i .i64 (1)]) = ( (0 : Int) ≤ 4 ∧ AVal.int IntKind.i64 (16 : Int) = AVal.int IntKind.i64 (16 : Int) ∧
 True) := by kernel_rfl
theorem may_ok  : Paid (entryX F (lookC l51) 400 Try.f51 b51 ⟨[], mayD.res ((mp0, ()) : Mp × Unit), []⟩ [.agg (enc4 mp0)]) := by
  refine ⟨?_⟩
  rw [may_e]
  repeat' (first | apply And.intro | intro _)
  all_goals first
    | exact trivial
    | (rw [wrap64 (n := 2 * d) (by omega) (by omega), wrap64 (by omega) (by omega)]; done)
    | (rw [wrap64 (n := 2 + d) (by omega) (by omega)]; done)
    | rfl
    | (simp_all [mp0, hashT]; done)
    | (simp_all [mp0, hashT]; omega)
    | omega
    | kernel_rfl
theorem mayOk0 : CtrOk F.S (lookC l51) := lookC_ok fun p h => by
  simp only [l51, List.mem_cons, List.not_mem_nil, or_false] at h
theorem mayOk : CtrOk1 F.S 51 (mkCtr mayD) :=
  mkCtr_paid (fn := Try.f51) (body := b51) (ctr := lookC l51) codOk noExt hookLow mayOk0 Try.func51 rfl rfl (by kernel_rfl) mayD 400 (fun _ => []) (show 1 ≤ Try.f51.ntmps by decide) (show Try.f51.ntmps ≤ 512 by decide) (by kernel_rfl) (fun _ _ => ⟨rfl, rfl⟩)
    (fun x h => by
      obtain ⟨m, u⟩ := x
      obtain rfl : m = mp0 := h
      exact may_ok
    ) (fun x h q hm => by cases hm)
theorem starts_ok  : Paid (entryX F (lookC l53) 400 Try.f53 b53 ⟨[], startsD.res ((mp0, ()) : Mp × Unit), []⟩ [.agg (enc4 mp0)]) := by
  refine ⟨?_⟩
  rw [starts_e]
  repeat' (first | apply And.intro | intro _)
  all_goals first
    | exact trivial
    | (rw [wrap64 (n := 2 * d) (by omega) (by omega), wrap64 (by omega) (by omega)]; done)
    | (rw [wrap64 (n := 2 + d) (by omega) (by omega)]; done)
    | rfl
    | (simp_all [mp0, hashT]; done)
    | (simp_all [mp0, hashT]; omega)
    | omega
    | kernel_rfl
theorem startsOk0 : CtrOk F.S (lookC l53) := lookC_ok fun p h => by
  simp only [l53, List.mem_cons, List.not_mem_nil, or_false] at h
theorem startsOk : CtrOk1 F.S 53 (mkCtr startsD) :=
  mkCtr_paid (fn := Try.f53) (body := b53) (ctr := lookC l53) codOk noExt hookLow startsOk0 Try.func53 rfl rfl (by kernel_rfl) startsD 400 (fun _ => []) (show 1 ≤ Try.f53.ntmps by decide) (show Try.f53.ntmps ≤ 512 by decide) (by kernel_rfl) (fun _ _ => ⟨rfl, rfl⟩)
    (fun x h => by
      obtain ⟨m, u⟩ := x
      obtain rfl : m = mp0 := h
      exact starts_ok
    ) (fun x h q hm => by cases hm)
theorem data_ok (d : Int) (h1 : 0 ≤ d) (h2 : d < 4) : Paid (entryX F (lookC l17) 400 Try.f17 b17 ⟨[], dataD.res ((mp0, d, ()) : Mp × Int × Unit), []⟩ [.agg (enc4 mp0), .i .i64 (d)]) := by
  refine ⟨?_⟩
  rw [data_e]
  repeat' (first | apply And.intro | intro _)
  all_goals first
    | exact trivial
    | (rw [wrap64 (n := 2 * d) (by omega) (by omega), wrap64 (by omega) (by omega)]; done)
    | (rw [wrap64 (n := 2 + d) (by omega) (by omega)]; done)
    | rfl
    | (simp_all [mp0, hashT]; done)
    | (simp_all [mp0, hashT]; omega)
    | omega
    | kernel_rfl
theorem dataOk0 : CtrOk F.S (lookC l17) := lookC_ok fun p h => by
  simp only [l17, List.mem_cons, List.not_mem_nil, or_false] at h
  rcases h with rfl | rfl
  · exact mayOk
  · exact startsOk
theorem dataOk : CtrOk1 F.S 17 (mkCtr dataD) :=
  mkCtr_paid (fn := Try.f17) (body := b17) (ctr := lookC l17) codOk noExt hookLow dataOk0 Try.func17 rfl rfl (by kernel_rfl) dataD 400 (fun _ => []) (show 2 ≤ Try.f17.ntmps by decide) (show Try.f17.ntmps ≤ 512 by decide) (by kernel_rfl) (fun _ _ => ⟨rfl, rfl⟩)
    (fun x h => by
      obtain ⟨m, d, u⟩ := x
      obtain ⟨h0, h1, h2⟩ := h
      obtain rfl : m = mp0 := h0
      exact data_ok d h1 h2
    ) (fun x h q hm => by cases hm)
theorem stripe_ok (d : Int) (h1 : 0 ≤ d) (h2 : d < 3) : Paid (entryX F (lookC l18) 400 Try.f18 b18 ⟨[], stripeD.res ((mp0, d, ()) : Mp × Int × Unit), []⟩ [.agg (enc4 mp0), .i .i64 (d)]) := by
  refine ⟨?_⟩
  rw [stripe_e]
  repeat' (first | apply And.intro | intro _)
  all_goals first
    | exact trivial
    | (rw [wrap64 (n := 2 * d) (by omega) (by omega), wrap64 (by omega) (by omega)]; done)
    | (rw [wrap64 (n := 2 + d) (by omega) (by omega)]; done)
    | rfl
    | (simp_all [mp0, hashT]; done)
    | (simp_all [mp0, hashT]; omega)
    | omega
    | kernel_rfl
theorem stripeOk0 : CtrOk F.S (lookC l18) := lookC_ok fun p h => by
  simp only [l18, List.mem_cons, List.not_mem_nil, or_false] at h
  rcases h with rfl | rfl
  · exact mayOk
  · exact startsOk
theorem stripeOk : CtrOk1 F.S 18 (mkCtr stripeD) :=
  mkCtr_paid (fn := Try.f18) (body := b18) (ctr := lookC l18) codOk noExt hookLow stripeOk0 Try.func18 rfl rfl (by kernel_rfl) stripeD 400 (fun _ => []) (show 2 ≤ Try.f18.ntmps by decide) (show Try.f18.ntmps ≤ 512 by decide) (by kernel_rfl) (fun _ _ => ⟨rfl, rfl⟩)
    (fun x h => by
      obtain ⟨m, d, u⟩ := x
      obtain ⟨h0, h1, h2⟩ := h
      obtain rfl : m = mp0 := h0
      exact stripe_ok d h1 h2
    ) (fun x h q hm => by cases hm)
theorem thread_ok  : Paid (entryX F (lookC l21) 400 Try.f21 b21 ⟨[], threadD.res ((mp0, 1, 0, ()) : Mp × Int × Int × Unit), []⟩ [.agg (enc4 mp0), .i .i64 (1), .i .i64 (0)]) := by
  refine ⟨?_⟩
  rw [thread_e]
  repeat' (first | apply And.intro | intro _)
  all_goals first
    | exact trivial
    | (rw [wrap64 (n := 2 * d) (by omega) (by omega), wrap64 (by omega) (by omega)]; done)
    | (rw [wrap64 (n := 2 + d) (by omega) (by omega)]; done)
    | rfl
    | (simp_all [mp0, hashT]; done)
    | (simp_all [mp0, hashT]; omega)
    | omega
    | kernel_rfl
theorem threadOk0 : CtrOk F.S (lookC l21) := lookC_ok fun p h => by
  simp only [l21, List.mem_cons, List.not_mem_nil, or_false] at h
  rcases h with rfl | rfl
  · exact mayOk
  · exact startsOk
theorem threadOk : CtrOk1 F.S 21 (mkCtr threadD) :=
  mkCtr_paid (fn := Try.f21) (body := b21) (ctr := lookC l21) codOk noExt hookLow threadOk0 Try.func21 rfl rfl (by kernel_rfl) threadD 400 (fun _ => []) (show 3 ≤ Try.f21.ntmps by decide) (show Try.f21.ntmps ≤ 512 by decide) (by kernel_rfl) (fun _ _ => ⟨rfl, rfl⟩)
    (fun x h => by
      obtain ⟨m, t, p, u⟩ := x
      obtain ⟨h0, h1, h2⟩ := h
      obtain rfl : m = mp0 := h0
      obtain rfl : t = (1 : Int) := h1
      obtain rfl : p = (0 : Int) := h2
      exact thread_ok
    ) (fun x h q hm => by cases hm)
theorem seq_ok  : Paid (entryX F (lookC l22) 400 Try.f22 b22 ⟨[], seqD.res ((mp0, ()) : Mp × Unit), []⟩ [.agg (enc4 mp0)]) := by
  refine ⟨?_⟩
  rw [seq_e]
  repeat' (first | apply And.intro | intro _)
  all_goals first
    | exact trivial
    | (rw [wrap64 (n := 2 * d) (by omega) (by omega), wrap64 (by omega) (by omega)]; done)
    | (rw [wrap64 (n := 2 + d) (by omega) (by omega)]; done)
    | rfl
    | (simp_all [mp0, hashT]; done)
    | (simp_all [mp0, hashT]; omega)
    | omega
    | kernel_rfl
theorem seqOk0 : CtrOk F.S (lookC l22) := lookC_ok fun p h => by
  simp only [l22, List.mem_cons, List.not_mem_nil, or_false] at h
  rcases h with rfl
  · exact mayOk
theorem seqOk : CtrOk1 F.S 22 (mkCtr seqD) :=
  mkCtr_paid (fn := Try.f22) (body := b22) (ctr := lookC l22) codOk noExt hookLow seqOk0 Try.func22 rfl rfl (by kernel_rfl) seqD 400 (fun _ => []) (show 1 ≤ Try.f22.ntmps by decide) (show Try.f22.ntmps ≤ 512 by decide) (by kernel_rfl) (fun _ _ => ⟨rfl, rfl⟩)
    (fun x h => by
      obtain ⟨m, u⟩ := x
      obtain rfl : m = mp0 := h
      exact seq_ok
    ) (fun x h q hm => by cases hm)
theorem clock_ok  : Paid (entryX F (lookC l28) 400 Try.f28 b28 ⟨[], clockD.res ((mp0, ()) : Mp × Unit), []⟩ [.agg (enc4 mp0)]) := by
  refine ⟨?_⟩
  rw [clock_e]
  repeat' (first | apply And.intro | intro _)
  all_goals first
    | exact trivial
    | (rw [wrap64 (n := 2 * d) (by omega) (by omega), wrap64 (by omega) (by omega)]; done)
    | (rw [wrap64 (n := 2 + d) (by omega) (by omega)]; done)
    | rfl
    | (simp_all [mp0, hashT]; done)
    | (simp_all [mp0, hashT]; omega)
    | omega
    | kernel_rfl
theorem clockOk0 : CtrOk F.S (lookC l28) := lookC_ok fun p h => by
  simp only [l28, List.mem_cons, List.not_mem_nil, or_false] at h
  rcases h with rfl
  · exact mayOk
theorem clockOk : CtrOk1 F.S 28 (mkCtr clockD) :=
  mkCtr_paid (fn := Try.f28) (body := b28) (ctr := lookC l28) codOk noExt hookLow clockOk0 Try.func28 rfl rfl (by kernel_rfl) clockD 400 (fun _ => []) (show 1 ≤ Try.f28.ntmps by decide) (show Try.f28.ntmps ≤ 512 by decide) (by kernel_rfl) (fun _ _ => ⟨rfl, rfl⟩)
    (fun x h => by
      obtain ⟨m, u⟩ := x
      obtain rfl : m = mp0 := h
      exact clock_ok
    ) (fun x h q hm => by cases hm)
theorem size_ok  : Paid (entryX F (lookC l43) 400 Try.f43 b43 ⟨[], sizeD.res ((mp0, ()) : Mp × Unit), []⟩ [.agg (enc4 mp0)]) := by
  refine ⟨?_⟩
  rw [size_e]
  repeat' (first | apply And.intro | intro _)
  all_goals first
    | exact trivial
    | (rw [wrap64 (n := 2 * d) (by omega) (by omega), wrap64 (by omega) (by omega)]; done)
    | (rw [wrap64 (n := 2 + d) (by omega) (by omega)]; done)
    | rfl
    | (simp_all [mp0, hashT]; done)
    | (simp_all [mp0, hashT]; omega)
    | omega
    | kernel_rfl
theorem sizeOk0 : CtrOk F.S (lookC l43) := lookC_ok fun p h => by
  simp only [l43, List.mem_cons, List.not_mem_nil, or_false] at h
  rcases h with rfl | rfl
  · exact mayOk
  · exact startsOk
theorem sizeOk : CtrOk1 F.S 43 (mkCtr sizeD) :=
  mkCtr_paid (fn := Try.f43) (body := b43) (ctr := lookC l43) codOk noExt hookLow sizeOk0 Try.func43 rfl rfl (by kernel_rfl) sizeD 400 (fun _ => []) (show 1 ≤ Try.f43.ntmps by decide) (show Try.f43.ntmps ≤ 512 by decide) (by kernel_rfl) (fun _ _ => ⟨rfl, rfl⟩)
    (fun x h => by
      obtain ⟨m, u⟩ := x
      obtain rfl : m = mp0 := h
      exact size_ok
    ) (fun x h q hm => by cases hm)
theorem hash_ok0  : Paid (entryX F (lookC l56) 400 Try.f56 b56 ⟨[], hashD.res ((mp0, 26, ()) : Mp × Int × Unit), []⟩ [.agg (enc4 mp0), .i .i64 (26)]) := by
  refine ⟨?_⟩
  rw [hash_e0]
  repeat' (first | apply And.intro | intro _)
  all_goals first
    | exact trivial
    | (rw [wrap64 (n := 2 * d) (by omega) (by omega), wrap64 (by omega) (by omega)]; done)
    | (rw [wrap64 (n := 2 + d) (by omega) (by omega)]; done)
    | rfl
    | (simp_all [mp0, hashT]; done)
    | (simp_all [mp0, hashT]; omega)
    | omega
    | kernel_rfl
theorem hash_ok1  : Paid (entryX F (lookC l56) 400 Try.f56 b56 ⟨[], hashD.res ((mp0, 28, ()) : Mp × Int × Unit), []⟩ [.agg (enc4 mp0), .i .i64 (28)]) := by
  refine ⟨?_⟩
  rw [hash_e1]
  repeat' (first | apply And.intro | intro _)
  all_goals first
    | exact trivial
    | (rw [wrap64 (n := 2 * d) (by omega) (by omega), wrap64 (by omega) (by omega)]; done)
    | (rw [wrap64 (n := 2 + d) (by omega) (by omega)]; done)
    | rfl
    | (simp_all [mp0, hashT]; done)
    | (simp_all [mp0, hashT]; omega)
    | omega
    | kernel_rfl
theorem hash_ok2  : Paid (entryX F (lookC l56) 400 Try.f56 b56 ⟨[], hashD.res ((mp0, 30, ()) : Mp × Int × Unit), []⟩ [.agg (enc4 mp0), .i .i64 (30)]) := by
  refine ⟨?_⟩
  rw [hash_e2]
  repeat' (first | apply And.intro | intro _)
  all_goals first
    | exact trivial
    | (rw [wrap64 (n := 2 * d) (by omega) (by omega), wrap64 (by omega) (by omega)]; done)
    | (rw [wrap64 (n := 2 + d) (by omega) (by omega)]; done)
    | rfl
    | (simp_all [mp0, hashT]; done)
    | (simp_all [mp0, hashT]; omega)
    | omega
    | kernel_rfl
theorem hash_ok3  : Paid (entryX F (lookC l56) 400 Try.f56 b56 ⟨[], hashD.res ((mp0, 32, ()) : Mp × Int × Unit), []⟩ [.agg (enc4 mp0), .i .i64 (32)]) := by
  refine ⟨?_⟩
  rw [hash_e3]
  repeat' (first | apply And.intro | intro _)
  all_goals first
    | exact trivial
    | (rw [wrap64 (n := 2 * d) (by omega) (by omega), wrap64 (by omega) (by omega)]; done)
    | (rw [wrap64 (n := 2 + d) (by omega) (by omega)]; done)
    | rfl
    | (simp_all [mp0, hashT]; done)
    | (simp_all [mp0, hashT]; omega)
    | omega
    | kernel_rfl
theorem hashOk0 : CtrOk F.S (lookC l56) := lookC_ok fun p h => by
  simp only [l56, List.mem_cons, List.not_mem_nil, or_false] at h
  rcases h with rfl | rfl | rfl
  · exact mayOk
  · exact startsOk
  · exact sizeOk
theorem hashOk : CtrOk1 F.S 56 (mkCtr hashD) :=
  mkCtr_paid (fn := Try.f56) (body := b56) (ctr := lookC l56) codOk noExt hookLow hashOk0 Try.func56 rfl rfl (by kernel_rfl) hashD 400 (fun _ => []) (show 2 ≤ Try.f56.ntmps by decide) (show Try.f56.ntmps ≤ 512 by decide) (by kernel_rfl) (fun _ _ => ⟨rfl, rfl⟩)
    (fun x h => by
      obtain ⟨m, a, u⟩ := x
      obtain ⟨h0, h1⟩ := h
      obtain rfl : m = mp0 := h0
      rcases h1 with h1 | h1 | h1 | h1
      · obtain rfl : a = (26 : Int) := h1
        exact hash_ok0
      · obtain rfl : a = (28 : Int) := h1
        exact hash_ok1
      · obtain rfl : a = (30 : Int) := h1
        exact hash_ok2
      · obtain rfl : a = (32 : Int) := h1
        exact hash_ok3
    ) (fun x h q hm => by cases hm)
theorem fresh_ok (s : Int) (h1 : 0 ≤ s) : Paid (entryX F (lookC l70) 400 Try.f70 b70 ⟨[], freshD.res ((0, s, ()) : Int × Int × Unit), []⟩ [.i .i64 (0), .i .i64 (s)]) := by
  refine ⟨?_⟩
  rw [fresh_e]
  repeat' (first | apply And.intro | intro _)
  all_goals first
    | exact trivial
    | (rw [wrap64 (n := 2 * d) (by omega) (by omega), wrap64 (by omega) (by omega)]; done)
    | (rw [wrap64 (n := 2 + d) (by omega) (by omega)]; done)
    | rfl
    | (simp_all [mp0, hashT]; done)
    | (simp_all [mp0, hashT]; omega)
    | omega
    | kernel_rfl
theorem freshOk0 : CtrOk F.S (lookC l70) := lookC_ok fun p h => by
  simp only [l70, List.mem_cons, List.not_mem_nil, or_false] at h
theorem freshOk : CtrOk1 F.S 70 (mkCtr freshD) :=
  mkCtr_paid (fn := Try.f70) (body := b70) (ctr := lookC l70) codOk noExt hookLow freshOk0 Try.func70 rfl rfl (by kernel_rfl) freshD 400 (fun _ => []) (show 2 ≤ Try.f70.ntmps by decide) (show Try.f70.ntmps ≤ 512 by decide) (by kernel_rfl) (fun _ _ => ⟨rfl, rfl⟩)
    (fun x h => by
      obtain ⟨x, s, u⟩ := x
      obtain ⟨h0, h1⟩ := h
      obtain rfl : x = (0 : Int) := h0
      exact fresh_ok s h1
    ) (fun x h q hm => by cases hm)
theorem holder_ok0  : Paid (entryX F (lookC l90) 400 Try.f90 b90 ⟨[], holderD.res ((0, ()) : Int × Unit), []⟩ [.i .i64 (0)]) := by
  refine ⟨?_⟩
  rw [holder_e0]
  repeat' (first | apply And.intro | intro _)
  all_goals first
    | exact trivial
    | (rw [wrap64 (n := 2 * d) (by omega) (by omega), wrap64 (by omega) (by omega)]; done)
    | (rw [wrap64 (n := 2 + d) (by omega) (by omega)]; done)
    | rfl
    | (simp_all [mp0, hashT]; done)
    | (simp_all [mp0, hashT]; omega)
    | omega
    | kernel_rfl
theorem holder_ok1  : Paid (entryX F (lookC l90) 400 Try.f90 b90 ⟨[], holderD.res ((2, ()) : Int × Unit), []⟩ [.i .i64 (2)]) := by
  refine ⟨?_⟩
  rw [holder_e1]
  repeat' (first | apply And.intro | intro _)
  all_goals first
    | exact trivial
    | (rw [wrap64 (n := 2 * d) (by omega) (by omega), wrap64 (by omega) (by omega)]; done)
    | (rw [wrap64 (n := 2 + d) (by omega) (by omega)]; done)
    | rfl
    | (simp_all [mp0, hashT]; done)
    | (simp_all [mp0, hashT]; omega)
    | omega
    | kernel_rfl
theorem holderOk0 : CtrOk F.S (lookC l90) := lookC_ok fun p h => by
  simp only [l90, List.mem_cons, List.not_mem_nil, or_false] at h
theorem holderOk : CtrOk1 F.S 90 (mkCtr holderD) :=
  mkCtr_paid (fn := Try.f90) (body := b90) (ctr := lookC l90) codOk noExt hookLow holderOk0 Try.func90 rfl rfl (by kernel_rfl) holderD 400 (fun _ => []) (show 1 ≤ Try.f90.ntmps by decide) (show Try.f90.ntmps ≤ 512 by decide) (by kernel_rfl) (fun _ _ => ⟨rfl, rfl⟩)
    (fun x h => by
      obtain ⟨x, u⟩ := x
      rcases h with h | h
      · obtain rfl : x = (0 : Int) := h
        exact holder_ok0
      · obtain rfl : x = (2 : Int) := h
        exact holder_ok1
    ) (fun x h q hm => by cases hm)
theorem version_ok0  : Paid (entryX F (lookC l91) 400 Try.f91 b91 ⟨[], versionD.res ((0, ()) : Int × Unit), []⟩ [.i .i64 (0)]) := by
  refine ⟨?_⟩
  rw [version_e0]
  repeat' (first | apply And.intro | intro _)
  all_goals first
    | exact trivial
    | (rw [wrap64 (n := 2 * d) (by omega) (by omega), wrap64 (by omega) (by omega)]; done)
    | (rw [wrap64 (n := 2 + d) (by omega) (by omega)]; done)
    | rfl
    | (simp_all [mp0, hashT]; done)
    | (simp_all [mp0, hashT]; omega)
    | omega
    | kernel_rfl
theorem version_ok1  : Paid (entryX F (lookC l91) 400 Try.f91 b91 ⟨[], versionD.res ((2, ()) : Int × Unit), []⟩ [.i .i64 (2)]) := by
  refine ⟨?_⟩
  rw [version_e1]
  repeat' (first | apply And.intro | intro _)
  all_goals first
    | exact trivial
    | (rw [wrap64 (n := 2 * d) (by omega) (by omega), wrap64 (by omega) (by omega)]; done)
    | (rw [wrap64 (n := 2 + d) (by omega) (by omega)]; done)
    | rfl
    | (simp_all [mp0, hashT]; done)
    | (simp_all [mp0, hashT]; omega)
    | omega
    | kernel_rfl
theorem versionOk0 : CtrOk F.S (lookC l91) := lookC_ok fun p h => by
  simp only [l91, List.mem_cons, List.not_mem_nil, or_false] at h
theorem versionOk : CtrOk1 F.S 91 (mkCtr versionD) :=
  mkCtr_paid (fn := Try.f91) (body := b91) (ctr := lookC l91) codOk noExt hookLow versionOk0 Try.func91 rfl rfl (by kernel_rfl) versionD 400 (fun _ => []) (show 1 ≤ Try.f91.ntmps by decide) (show Try.f91.ntmps ≤ 512 by decide) (by kernel_rfl) (fun _ _ => ⟨rfl, rfl⟩)
    (fun x h => by
      obtain ⟨x, u⟩ := x
      rcases h with h | h
      · obtain rfl : x = (0 : Int) := h
        exact version_ok0
      · obtain rfl : x = (2 : Int) := h
        exact version_ok1
    ) (fun x h q hm => by cases hm)
theorem taken_ok  : Paid (entryX F (lookC l94) 400 Try.f94 b94 ⟨[], takenD.res ((0, 1, ()) : Int × Int × Unit), []⟩ [.i .i64 (0), .i .i64 (1)]) := by
  refine ⟨?_⟩
  rw [taken_e]
  repeat' (first | apply And.intro | intro _)
  all_goals first
    | exact trivial
    | (rw [wrap64 (n := 2 * d) (by omega) (by omega), wrap64 (by omega) (by omega)]; done)
    | (rw [wrap64 (n := 2 + d) (by omega) (by omega)]; done)
    | rfl
    | (simp_all [mp0, hashT]; done)
    | (simp_all [mp0, hashT]; omega)
    | omega
    | kernel_rfl
theorem takenOk0 : CtrOk F.S (lookC l94) := lookC_ok fun p h => by
  simp only [l94, List.mem_cons, List.not_mem_nil, or_false] at h
theorem takenOk : CtrOk1 F.S 94 (mkCtr takenD) :=
  mkCtr_paid (fn := Try.f94) (body := b94) (ctr := lookC l94) codOk noExt hookLow takenOk0 Try.func94 rfl rfl (by kernel_rfl) takenD 400 (fun _ => []) (show 2 ≤ Try.f94.ntmps by decide) (show Try.f94.ntmps ≤ 512 by decide) (by kernel_rfl) (fun _ _ => ⟨rfl, rfl⟩)
    (fun x h => by
      obtain ⟨x, t, u⟩ := x
      obtain ⟨h0, h1⟩ := h
      obtain rfl : x = (0 : Int) := h0
      obtain rfl : t = (1 : Int) := h1
      exact taken_ok
    ) (fun x h q hm => by cases hm)
theorem free_ok  : Paid (entryX F (lookC l98) 400 Try.f98 b98 ⟨[], freeD.res ((1, ()) : Int × Unit), []⟩ [.i .i64 (1)]) := by
  refine ⟨?_⟩
  rw [free_e]
  repeat' (first | apply And.intro | intro _)
  all_goals first
    | exact trivial
    | (rw [wrap64 (n := 2 * d) (by omega) (by omega), wrap64 (by omega) (by omega)]; done)
    | (rw [wrap64 (n := 2 + d) (by omega) (by omega)]; done)
    | rfl
    | (simp_all [mp0, hashT]; done)
    | (simp_all [mp0, hashT]; omega)
    | omega
    | kernel_rfl
theorem freeOk0 : CtrOk F.S (lookC l98) := lookC_ok fun p h => by
  simp only [l98, List.mem_cons, List.not_mem_nil, or_false] at h
theorem freeOk : CtrOk1 F.S 98 (mkCtr freeD) :=
  mkCtr_paid (fn := Try.f98) (body := b98) (ctr := lookC l98) codOk noExt hookLow freeOk0 Try.func98 rfl rfl (by kernel_rfl) freeD 400 (fun _ => []) (show 1 ≤ Try.f98.ntmps by decide) (show Try.f98.ntmps ≤ 512 by decide) (by kernel_rfl) (fun _ _ => ⟨rfl, rfl⟩)
    (fun x h => by
      obtain ⟨x, u⟩ := x
      obtain rfl : x = (1 : Int) := h
      exact free_ok
    ) (fun x h q hm => by cases hm)
end Go.Proofs.Ytmjjljngaefpaaa
