/- Where words stand, and marks: the contracts are paid. Printed by a program (gen_pl.py). -/
import Derived.Test.YtmjjljngaefpaaaPl
import Derived.Test.YtmjjljngaefpaaaBi
namespace Go.Proofs.Ytmjjljngaefpaaa
open Go.RowKit Go.Am Go.Sy
open Go.IntKind (i64 u64)
set_option linter.unusedVariables false
set_option linter.unusedSimpArgs false
theorem may_e : Go.Sy.Tree.holds (entryX F (lookC l38) 400 Try.f51 b38 ⟨[],mayD.res ((mp0,()) : Mp × Unit),[]⟩ [.agg (enc4 mp0)]) = ( (true = true → (true = true → (true = true → (true = true → (true = true → (true =
 true → (true = true → (true = true → (true = true → AVal.bool true = AVal.bool true ∧ True) ∧ (true = false → constA (Value.bool false) = AVal.bool true ∧ True)) ∧ (true = false → constA (Value.bool false) = AVal.bool
 true ∧ True)) ∧ (true = false → constA (Value.bool false) = AVal.bool true ∧ True)) ∧ (true = false → constA (Value.bool false) = AVal.bool true ∧ True)) ∧ (true = false → constA (Value.bool false) = AVal.bool true ∧
 True)) ∧ (true = false → constA (Value.bool false) = AVal.bool true ∧ True)) ∧ (true = false → constA (Value.bool false) = AVal.bool true ∧ True)) ∧ (true = false → constA (Value.bool false) = AVal.bool true ∧ True)) ∧
 (true = false → constA (Value.bool false) = AVal.bool true ∧ True)) := by kernel_rfl
theorem starts_e : Go.Sy.Tree.holds (entryX F (lookC l40) 400 Try.f53 b40 ⟨[],startsD.res ((mp0,()) : Mp × Unit),[]⟩ [.agg (enc4 mp0)]) = ( constA (Value.int i64 (2 : Int)) = AVal.int i64 (2 : Int) ∧
 AVal.int i64 (5 : Int) = AVal.int i64 (5 : Int) ∧ AVal.int i64 (11 : Int) = AVal.int i64 (11 : Int) ∧ AVal.int i64 (17 : Int) = AVal.int i64 (17 : Int) ∧ AVal.int
 i64 (23 : Int) = AVal.int i64 (23 : Int) ∧ AVal.int i64 (26 : Int) = AVal.int i64 (26 : Int) ∧ AVal.int i64 (26 : Int) = AVal.int i64 (26 : Int) ∧ AVal.int i64 (34
 : Int) = AVal.int i64 (34 : Int) ∧ True) := by kernel_rfl
theorem data_e (d : Int) : Go.Sy.Tree.holds (entryX F (lookC l13) 400 Try.f17 b13 ⟨[],dataD.res ((mp0,d,()) : Mp × Int × Unit),[]⟩ [.agg (enc4 mp0),.i .i64 (d)]) = ( mayD.pre (Mp.mk mp0.ms mp0.ml mp0.mt mp0.mc
 mp0.md,()) ∧ (decide (d ≥ (0 : Int)) = true → ((!decide (d < mp0.md)) = true → (-1 : Int) = 26 + 2 * d ∧ True) ∧ ((!decide (d < mp0.md)) = false → startsD.pre (Mp.mk mp0.ms mp0.ml mp0.mt mp0.mc mp0.md,()) ∧
 i64.wrap ((26 : Int) + i64.wrap ((2 : Int) * d)) = 26 + 2 * d ∧ True)) ∧ (decide (d ≥ (0 : Int)) = false → (-1 : Int) = 26 + 2 * d ∧ True)) := by kernel_rfl
theorem stripe_e (d : Int) : Go.Sy.Tree.holds (entryX F (lookC l88) 400 Try.f18 b88 ⟨[],stripeD.res ((mp0,d,()) : Mp × Int × Unit),[]⟩ [.agg (enc4 mp0),.i .i64 (d)]) = ( mayD.pre (Mp.mk mp0.ms mp0.ml mp0.mt mp0.mc
 mp0.md,()) ∧ (decide (d ≥ (0 : Int)) = true → ((!decide (d < mp0.ms)) = true → (-1 : Int) = 2 + d ∧ True) ∧ ((!decide (d < mp0.ms)) = false → startsD.pre (Mp.mk mp0.ms mp0.ml mp0.mt mp0.mc mp0.md,()) ∧ i64.wrap
 ((2 : Int) + d) = 2 + d ∧ True)) ∧ (decide (d ≥ (0 : Int)) = false → (-1 : Int) = 2 + d ∧ True)) := by kernel_rfl
theorem thread_e (t : Int) : Go.Sy.Tree.holds (entryX F (lookC l74) 400 Try.f21 b74 ⟨[],threadD.res ((mp0,t,0,()) : Mp × Int × Int × Unit),[]⟩ [.agg (enc4 mp0),.i .i64 (t),.i .i64 (0)]) = ( mayD.pre (Mp.mk mp0.ms
 mp0.ml mp0.mt mp0.mc mp0.md,()) ∧ (decide (t ≥ (0 : Int)) = true → ((!decide (t < mp0.mt)) = true → (-1 : Int) = 11 + 2 * t ∧ True) ∧ ((!decide (t < mp0.mt)) = false → (true = true → (false = true → (-1 : Int) = 11 + 2
 * t ∧ True) ∧ (false = false → startsD.pre (Mp.mk mp0.ms mp0.ml mp0.mt mp0.mc mp0.md,()) ∧ i64.wrap (i64.wrap ((11 : Int) + i64.wrap ((2 : Int) * t)) + 0) = 11 + 2 * t ∧ True)) ∧ (true = false →
 (-1 : Int) = 11 + 2 * t ∧ True))) ∧ (decide (t ≥ (0 : Int)) = false → (-1 : Int) = 11 + 2 * t ∧ True)) := by kernel_rfl
theorem seq_e : Go.Sy.Tree.holds (entryX F (lookC l134) 400 Try.f22 b134 ⟨[],seqD.res ((mp0,()) : Mp × Unit),[]⟩ [.agg (enc4 mp0)]) = ( mayD.pre (Mp.mk mp0.ms mp0.ml mp0.mt mp0.mc mp0.md,()) ∧ constA (Value.int
 i64 (1 : Int)) = AVal.int i64 (1 : Int) ∧ True) := by kernel_rfl
theorem clock_e : Go.Sy.Tree.holds (entryX F (lookC l55) 400 Try.f28 b55 ⟨[],clockD.res ((mp0,()) : Mp × Unit),[]⟩ [.agg (enc4 mp0)]) = ( mayD.pre (Mp.mk mp0.ms mp0.ml mp0.mt mp0.mc mp0.md,()) ∧ constA (Value.int
 i64 (0 : Int)) = AVal.int i64 (0 : Int) ∧ True) := by kernel_rfl
theorem size_e : Go.Sy.Tree.holds (entryX F (lookC l53) 400 Try.f43 b53 ⟨[],sizeD.res ((mp0,()) : Mp × Unit),[]⟩ [.agg (enc4 mp0)]) = ( mayD.pre (Mp.mk mp0.ms mp0.ml mp0.mt mp0.mc mp0.md,()) ∧ startsD.pre (Mp.mk
 mp0.ms mp0.ml mp0.mt mp0.mc mp0.md,()) ∧ AVal.int i64 (34 : Int) = AVal.int i64 (34 : Int) ∧ True) := by kernel_rfl
theorem hash_e0 : Go.Sy.Tree.holds (entryX F (lookC l42) 400 Try.f56 b42 ⟨[],hashD.res ((mp0,26,()) : Mp × Int × Unit),[]⟩ [.agg (enc4 mp0),.i .i64 (26)]) = ( sizeD.pre (Mp.mk mp0.ms mp0.ml mp0.mt mp0.mc mp0.md,())
 ∧ (true = true → (false = true → (-1 : Int) = hashT (26 : Int) ∧ True) ∧ (false = false → (0 : Int) ≤ 4 ∧ mp0.ms ≠ (0 : Int) ∧ (0 : Int) = hashT (26 : Int) ∧ True)) ∧ (true = false → (-1 : Int) = hashT (26 : Int) ∧
 True)) := by kernel_rfl
theorem hash_e1 : Go.Sy.Tree.holds (entryX F (lookC l42) 400 Try.f56 b42 ⟨[],hashD.res ((mp0,28,()) : Mp × Int × Unit),[]⟩ [.agg (enc4 mp0),.i .i64 (28)]) = ( sizeD.pre (Mp.mk mp0.ms mp0.ml mp0.mt mp0.mc mp0.md,())
 ∧ (true = true → (false = true → (-1 : Int) = hashT (28 : Int) ∧ True) ∧ (false = false → (0 : Int) ≤ 4 ∧ mp0.ms ≠ (0 : Int) ∧ (2 : Int) = hashT (28 : Int) ∧ True)) ∧ (true = false → (-1 : Int) = hashT (28 : Int) ∧
 True)) := by kernel_rfl
theorem hash_e2 : Go.Sy.Tree.holds (entryX F (lookC l42) 400 Try.f56 b42 ⟨[],hashD.res ((mp0,30,()) : Mp × Int × Unit),[]⟩ [.agg (enc4 mp0),.i .i64 (30)]) = ( sizeD.pre (Mp.mk mp0.ms mp0.ml mp0.mt mp0.mc mp0.md,())
 ∧ (true = true → (false = true → (-1 : Int) = hashT (30 : Int) ∧ True) ∧ (false = false → (0 : Int) ≤ 4 ∧ mp0.ms ≠ (0 : Int) ∧ (1 : Int) = hashT (30 : Int) ∧ True)) ∧ (true = false → (-1 : Int) = hashT (30 : Int) ∧
 True)) := by kernel_rfl
theorem hash_e3 : Go.Sy.Tree.holds (entryX F (lookC l42) 400 Try.f56 b42 ⟨[],hashD.res ((mp0,32,()) : Mp × Int × Unit),[]⟩ [.agg (enc4 mp0),.i .i64 (32)]) = ( sizeD.pre (Mp.mk mp0.ms mp0.ml mp0.mt mp0.mc mp0.md,())
 ∧ (true = true → (false = true → (-1 : Int) = hashT (32 : Int) ∧ True) ∧ (false = false → (0 : Int) ≤ 4 ∧ mp0.ms ≠ (0 : Int) ∧ (1 : Int) = hashT (32 : Int) ∧ True)) ∧ (true = false → (-1 : Int) = hashT (32 : Int) ∧
 True)) := by kernel_rfl
theorem holder_e (x : Int) : Go.Sy.Tree.holds (entryX F (lookC l128) 400 Try.f90 b128 ⟨[],holderD.res ((x,()) : Int × Unit),[]⟩ [.i .i64 (x)]) = ( i64.wrap (i64.wrap (↑(BitVec.ofInt i64.bits x
 &&& BitVec.ofInt i64.bits (15 : Int)).toNat : Int) - 1) = x % (16 : Int) - 1 ∧ True) := by kernel_rfl
theorem version_e (x : Int) : Go.Sy.Tree.holds (entryX F (lookC l129) 400 Try.f91 b129 ⟨[],versionD.res ((x,()) : Int × Unit),[]⟩ [.i .i64 (x)]) = ( (0 : Int) ≤ 4 ∧ x.fdiv (16 : Int) = x / (16 : Int) ∧ True) := by
 kernel_rfl
theorem fresh_e (x : Int) (s : Int) : Go.Sy.Tree.holds (entryX F (lookC l89) 400 Try.f70 b89 ⟨[],freshD.res ((x,s,()) : Int × Int × Unit),[]⟩ [.i .i64 (x),.i .i64 (s)]) = ( holderD.pre (x,()) ∧ (decide (x % (16 :
 Int) - 1 ≥ (0 : Int)) = true → (1 : Int) = freshT x s ∧ True) ∧ (decide (x % (16 : Int) - 1 ≥ (0 : Int)) = false → versionD.pre (x,()) ∧ (decide (x / (16 : Int) > s) = true → (2 : Int) = freshT x s ∧ True) ∧ (decide (x
 / (16 : Int) > s) = false → (0 : Int) = freshT x s ∧ True))) := by kernel_rfl
theorem taken_e (x : Int) (t : Int) : Go.Sy.Tree.holds (entryX F (lookC l132) 400 Try.f94 b132 ⟨[],takenD.res ((x,t,()) : Int × Int × Unit),[]⟩ [.i .i64 (x),.i .i64 (t)]) = ( (decide (t < 0) = true → x = x - x %
 (16 : Int) + t + 1 ∧ True) ∧ (decide (t < 0) = false → (decide (t ≥ (4 : Int)) = true → x = x - x % (16 : Int) + t + 1 ∧ True) ∧ (decide (t ≥ (4 : Int)) = false → i64.wrap (↑(BitVec.ofInt i64.bits
 (i64.wrap (↑(BitVec.ofInt i64.bits x &&& ~~~BitVec.ofInt i64.bits (15 : Int)).toNat : Int)) ||| BitVec.ofInt i64.bits (i64.wrap (t + 1))).toNat : Int) = x - x % (16 : Int) + t + 1
 ∧ True))) := by kernel_rfl
theorem free_e (x : Int) : Go.Sy.Tree.holds (entryX F (lookC l137) 400 Try.f98 b137 ⟨[],freeD.res ((x,()) : Int × Unit),[]⟩ [.i .i64 (x)]) = ( (0 : Int) ≤ 4 ∧ i64.wrap (x * 16) = x * 16 ∧ True) := by
 kernel_rfl
theorem wrl {P : Prop} (h : P := by
 first
  | exact trivial
  | (rw [wrap64 (n := 2 * _) (by omega) (by omega),wrap64 (by omega) (by omega)]; done)
  | (rw [wrap64 (n := 2 + _) (by omega) (by omega)]; done)
  | rfl
  | (show Int.fdiv _ 16 = _ / 16; exact Int.fdiv_eq_ediv_of_nonneg _ (by decide))
  | (rw [and15 (by assumption) (by assumption),wrap64 (by omega) (by omega)]; done)
  | exact taken_bits (by assumption) (by assumption) (by assumption) (by assumption)
  | exact ⟨by assumption,by assumption⟩
  | (rw [wrap64 (n := 2 * _) (by omega) (by omega),wrap64 (n := 11 + 2 * _) (by omega) (by omega),wrap64 (by omega) (by omega)]; omega)
  | (rw [wrap64 (by omega) (by omega)]; done)
  | (unfold freshT; simp_all; done)
  | (unfold freshT; simp_all; omega)
  | (simp_all [mp0,hashT]; done)
  | (simp_all [mp0,hashT]; omega)
  | omega
  | kernel_rfl) : P := h
theorem may_ok  : Paid (entryX F (lookC l38) 400 Try.f51 b38 ⟨[],mayD.res ((mp0,()) : Mp × Unit),[]⟩ [.agg (enc4 mp0)]) := by
 refine ⟨?_⟩
 rw [may_e]
 repeat' (first | apply And.intro | intro _)
 all_goals exact wrl
theorem mayOk0 : CtrOk F.S (lookC l38) := lookC_ok fun p h => by
 simp only [l38,List.mem_cons,List.not_mem_nil,or_false] at h
theorem mayOk : CtrOk1 F.S 51 (mkCtr mayD) :=
 mkCtr_paid (fn := Try.f51) (body := b38) (ctr := lookC l38) codOk noExt hookLow mayOk0 Try.func51 rfl rfl (by kernel_rfl) mayD 400 (fun _ => []) (show 1 ≤ Try.f51.ntmps by decide) (show Try.f51.ntmps ≤ 512 by decide) (by kernel_rfl) (fun _ _ => ⟨rfl,rfl⟩)
  (fun x h => by
   obtain ⟨m,u⟩ := x
   obtain rfl : m = mp0 := h
   exact may_ok
  ) (fun x h q hm => by cases hm)
theorem starts_ok  : Paid (entryX F (lookC l40) 400 Try.f53 b40 ⟨[],startsD.res ((mp0,()) : Mp × Unit),[]⟩ [.agg (enc4 mp0)]) := by
 refine ⟨?_⟩
 rw [starts_e]
 repeat' (first | apply And.intro | intro _)
 all_goals exact wrl
theorem startsOk0 : CtrOk F.S (lookC l40) := lookC_ok fun p h => by
 simp only [l40,List.mem_cons,List.not_mem_nil,or_false] at h
theorem startsOk : CtrOk1 F.S 53 (mkCtr startsD) :=
 mkCtr_paid (fn := Try.f53) (body := b40) (ctr := lookC l40) codOk noExt hookLow startsOk0 Try.func53 rfl rfl (by kernel_rfl) startsD 400 (fun _ => []) (show 1 ≤ Try.f53.ntmps by decide) (show Try.f53.ntmps ≤ 512 by decide) (by kernel_rfl) (fun _ _ => ⟨rfl,rfl⟩)
  (fun x h => by
   obtain ⟨m,u⟩ := x
   obtain rfl : m = mp0 := h
   exact starts_ok
  ) (fun x h q hm => by cases hm)
theorem data_ok (d : Int) (h1 : 0 ≤ d) (h2 : d < 4) : Paid (entryX F (lookC l13) 400 Try.f17 b13 ⟨[],dataD.res ((mp0,d,()) : Mp × Int × Unit),[]⟩ [.agg (enc4 mp0),.i .i64 (d)]) := by
 refine ⟨?_⟩
 rw [data_e]
 repeat' (first | apply And.intro | intro _)
 all_goals exact wrl
theorem dataOk0 : CtrOk F.S (lookC l13) := lookC_ok fun p h => by
 simp only [l13,List.mem_cons,List.not_mem_nil,or_false] at h
 rcases h with rfl | rfl
 ·exact mayOk
 ·exact startsOk
theorem dataOk : CtrOk1 F.S 17 (mkCtr dataD) :=
 mkCtr_paid (fn := Try.f17) (body := b13) (ctr := lookC l13) codOk noExt hookLow dataOk0 Try.func17 rfl rfl (by kernel_rfl) dataD 400 (fun _ => []) (show 2 ≤ Try.f17.ntmps by decide) (show Try.f17.ntmps ≤ 512 by decide) (by kernel_rfl) (fun _ _ => ⟨rfl,rfl⟩)
  (fun x h => by
   obtain ⟨m,d,u⟩ := x
   obtain ⟨h0,h1,h2⟩ := h
   obtain rfl : m = mp0 := h0
   exact data_ok d h1 h2
  ) (fun x h q hm => by cases hm)
theorem stripe_ok (d : Int) (h1 : 0 ≤ d) (h2 : d < 3) : Paid (entryX F (lookC l88) 400 Try.f18 b88 ⟨[],stripeD.res ((mp0,d,()) : Mp × Int × Unit),[]⟩ [.agg (enc4 mp0),.i .i64 (d)]) := by
 refine ⟨?_⟩
 rw [stripe_e]
 repeat' (first | apply And.intro | intro _)
 all_goals exact wrl
theorem stripeOk0 : CtrOk F.S (lookC l88) := lookC_ok fun p h => by
 simp only [l88,List.mem_cons,List.not_mem_nil,or_false] at h
 rcases h with rfl | rfl
 ·exact mayOk
 ·exact startsOk
theorem stripeOk : CtrOk1 F.S 18 (mkCtr stripeD) :=
 mkCtr_paid (fn := Try.f18) (body := b88) (ctr := lookC l88) codOk noExt hookLow stripeOk0 Try.func18 rfl rfl (by kernel_rfl) stripeD 400 (fun _ => []) (show 2 ≤ Try.f18.ntmps by decide) (show Try.f18.ntmps ≤ 512 by decide) (by kernel_rfl) (fun _ _ => ⟨rfl,rfl⟩)
  (fun x h => by
   obtain ⟨m,d,u⟩ := x
   obtain ⟨h0,h1,h2⟩ := h
   obtain rfl : m = mp0 := h0
   exact stripe_ok d h1 h2
  ) (fun x h q hm => by cases hm)
theorem thread_ok (t : Int) (h1 : 0 ≤ t) (h2 : t < 3) : Paid (entryX F (lookC l74) 400 Try.f21 b74 ⟨[],threadD.res ((mp0,t,0,()) : Mp × Int × Int × Unit),[]⟩ [.agg (enc4 mp0),.i .i64 (t),.i .i64 (0)]) := by
 refine ⟨?_⟩
 rw [thread_e]
 repeat' (first | apply And.intro | intro _)
 all_goals exact wrl
theorem threadOk0 : CtrOk F.S (lookC l74) := lookC_ok fun p h => by
 simp only [l74,List.mem_cons,List.not_mem_nil,or_false] at h
 rcases h with rfl | rfl
 ·exact mayOk
 ·exact startsOk
theorem threadOk : CtrOk1 F.S 21 (mkCtr threadD) :=
 mkCtr_paid (fn := Try.f21) (body := b74) (ctr := lookC l74) codOk noExt hookLow threadOk0 Try.func21 rfl rfl (by kernel_rfl) threadD 400 (fun _ => []) (show 3 ≤ Try.f21.ntmps by decide) (show Try.f21.ntmps ≤ 512 by decide) (by kernel_rfl) (fun _ _ => ⟨rfl,rfl⟩)
  (fun x h => by
   obtain ⟨m,t,p,u⟩ := x
   obtain ⟨h0,h1,h2,h3⟩ := h
   obtain rfl : m = mp0 := h0
   obtain rfl : p = (0 : Int) := h3
   exact thread_ok t h1 h2
  ) (fun x h q hm => by cases hm)
theorem seq_ok  : Paid (entryX F (lookC l134) 400 Try.f22 b134 ⟨[],seqD.res ((mp0,()) : Mp × Unit),[]⟩ [.agg (enc4 mp0)]) := by
 refine ⟨?_⟩
 rw [seq_e]
 repeat' (first | apply And.intro | intro _)
 all_goals exact wrl
theorem seqOk0 : CtrOk F.S (lookC l134) := lookC_ok fun p h => by
 simp only [l134,List.mem_cons,List.not_mem_nil,or_false] at h
 rcases h with rfl
 ·exact mayOk
theorem seqOk : CtrOk1 F.S 22 (mkCtr seqD) :=
 mkCtr_paid (fn := Try.f22) (body := b134) (ctr := lookC l134) codOk noExt hookLow seqOk0 Try.func22 rfl rfl (by kernel_rfl) seqD 400 (fun _ => []) (show 1 ≤ Try.f22.ntmps by decide) (show Try.f22.ntmps ≤ 512 by decide) (by kernel_rfl) (fun _ _ => ⟨rfl,rfl⟩)
  (fun x h => by
   obtain ⟨m,u⟩ := x
   obtain rfl : m = mp0 := h
   exact seq_ok
  ) (fun x h q hm => by cases hm)
theorem clock_ok  : Paid (entryX F (lookC l55) 400 Try.f28 b55 ⟨[],clockD.res ((mp0,()) : Mp × Unit),[]⟩ [.agg (enc4 mp0)]) := by
 refine ⟨?_⟩
 rw [clock_e]
 repeat' (first | apply And.intro | intro _)
 all_goals exact wrl
theorem clockOk0 : CtrOk F.S (lookC l55) := lookC_ok fun p h => by
 simp only [l55,List.mem_cons,List.not_mem_nil,or_false] at h
 rcases h with rfl
 ·exact mayOk
theorem clockOk : CtrOk1 F.S 28 (mkCtr clockD) :=
 mkCtr_paid (fn := Try.f28) (body := b55) (ctr := lookC l55) codOk noExt hookLow clockOk0 Try.func28 rfl rfl (by kernel_rfl) clockD 400 (fun _ => []) (show 1 ≤ Try.f28.ntmps by decide) (show Try.f28.ntmps ≤ 512 by decide) (by kernel_rfl) (fun _ _ => ⟨rfl,rfl⟩)
  (fun x h => by
   obtain ⟨m,u⟩ := x
   obtain rfl : m = mp0 := h
   exact clock_ok
  ) (fun x h q hm => by cases hm)
theorem size_ok  : Paid (entryX F (lookC l53) 400 Try.f43 b53 ⟨[],sizeD.res ((mp0,()) : Mp × Unit),[]⟩ [.agg (enc4 mp0)]) := by
 refine ⟨?_⟩
 rw [size_e]
 repeat' (first | apply And.intro | intro _)
 all_goals exact wrl
theorem sizeOk0 : CtrOk F.S (lookC l53) := lookC_ok fun p h => by
 simp only [l53,List.mem_cons,List.not_mem_nil,or_false] at h
 rcases h with rfl | rfl
 ·exact mayOk
 ·exact startsOk
theorem sizeOk : CtrOk1 F.S 43 (mkCtr sizeD) :=
 mkCtr_paid (fn := Try.f43) (body := b53) (ctr := lookC l53) codOk noExt hookLow sizeOk0 Try.func43 rfl rfl (by kernel_rfl) sizeD 400 (fun _ => []) (show 1 ≤ Try.f43.ntmps by decide) (show Try.f43.ntmps ≤ 512 by decide) (by kernel_rfl) (fun _ _ => ⟨rfl,rfl⟩)
  (fun x h => by
   obtain ⟨m,u⟩ := x
   obtain rfl : m = mp0 := h
   exact size_ok
  ) (fun x h q hm => by cases hm)
theorem hash_ok0  : Paid (entryX F (lookC l42) 400 Try.f56 b42 ⟨[],hashD.res ((mp0,26,()) : Mp × Int × Unit),[]⟩ [.agg (enc4 mp0),.i .i64 (26)]) := by
 refine ⟨?_⟩
 rw [hash_e0]
 repeat' (first | apply And.intro | intro _)
 all_goals exact wrl
theorem hash_ok1  : Paid (entryX F (lookC l42) 400 Try.f56 b42 ⟨[],hashD.res ((mp0,28,()) : Mp × Int × Unit),[]⟩ [.agg (enc4 mp0),.i .i64 (28)]) := by
 refine ⟨?_⟩
 rw [hash_e1]
 repeat' (first | apply And.intro | intro _)
 all_goals exact wrl
theorem hash_ok2  : Paid (entryX F (lookC l42) 400 Try.f56 b42 ⟨[],hashD.res ((mp0,30,()) : Mp × Int × Unit),[]⟩ [.agg (enc4 mp0),.i .i64 (30)]) := by
 refine ⟨?_⟩
 rw [hash_e2]
 repeat' (first | apply And.intro | intro _)
 all_goals exact wrl
theorem hash_ok3  : Paid (entryX F (lookC l42) 400 Try.f56 b42 ⟨[],hashD.res ((mp0,32,()) : Mp × Int × Unit),[]⟩ [.agg (enc4 mp0),.i .i64 (32)]) := by
 refine ⟨?_⟩
 rw [hash_e3]
 repeat' (first | apply And.intro | intro _)
 all_goals exact wrl
theorem hashOk0 : CtrOk F.S (lookC l42) := lookC_ok fun p h => by
 simp only [l42,List.mem_cons,List.not_mem_nil,or_false] at h
 rcases h with rfl | rfl | rfl
 ·exact mayOk
 ·exact startsOk
 ·exact sizeOk
theorem hashOk : CtrOk1 F.S 56 (mkCtr hashD) :=
 mkCtr_paid (fn := Try.f56) (body := b42) (ctr := lookC l42) codOk noExt hookLow hashOk0 Try.func56 rfl rfl (by kernel_rfl) hashD 400 (fun _ => []) (show 2 ≤ Try.f56.ntmps by decide) (show Try.f56.ntmps ≤ 512 by decide) (by kernel_rfl) (fun _ _ => ⟨rfl,rfl⟩)
  (fun x h => by
   obtain ⟨m,a,u⟩ := x
   obtain ⟨h0,h1⟩ := h
   obtain rfl : m = mp0 := h0
   rcases h1 with h1 | h1 | h1 | h1
   ·obtain rfl : a = (26 : Int) := h1
    exact hash_ok0
   ·obtain rfl : a = (28 : Int) := h1
    exact hash_ok1
   ·obtain rfl : a = (30 : Int) := h1
    exact hash_ok2
   ·obtain rfl : a = (32 : Int) := h1
    exact hash_ok3
  ) (fun x h q hm => by cases hm)
theorem holder_ok (x : Int) (h1 : 0 ≤ x) (h2 : x < 1099511627776) : Paid (entryX F (lookC l128) 400 Try.f90 b128 ⟨[],holderD.res ((x,()) : Int × Unit),[]⟩ [.i .i64 (x)]) := by
 refine ⟨?_⟩
 rw [holder_e]
 repeat' (first | apply And.intro | intro _)
 all_goals exact wrl
theorem holderOk0 : CtrOk F.S (lookC l128) := lookC_ok fun p h => by
 simp only [l128,List.mem_cons,List.not_mem_nil,or_false] at h
theorem holderOk : CtrOk1 F.S 90 (mkCtr holderD) :=
 mkCtr_paid (fn := Try.f90) (body := b128) (ctr := lookC l128) codOk noExt hookLow holderOk0 Try.func90 rfl rfl (by kernel_rfl) holderD 400 (fun _ => []) (show 1 ≤ Try.f90.ntmps by decide) (show Try.f90.ntmps ≤ 512 by decide) (by kernel_rfl) (fun _ _ => ⟨rfl,rfl⟩)
  (fun x h => by
   obtain ⟨x,u⟩ := x
   exact holder_ok x h.1 h.2
  ) (fun x h q hm => by cases hm)
theorem version_ok (x : Int) (h1 : 0 ≤ x) (h2 : x < 1099511627776) : Paid (entryX F (lookC l129) 400 Try.f91 b129 ⟨[],versionD.res ((x,()) : Int × Unit),[]⟩ [.i .i64 (x)]) := by
 refine ⟨?_⟩
 rw [version_e]
 repeat' (first | apply And.intro | intro _)
 all_goals exact wrl
theorem versionOk0 : CtrOk F.S (lookC l129) := lookC_ok fun p h => by
 simp only [l129,List.mem_cons,List.not_mem_nil,or_false] at h
theorem versionOk : CtrOk1 F.S 91 (mkCtr versionD) :=
 mkCtr_paid (fn := Try.f91) (body := b129) (ctr := lookC l129) codOk noExt hookLow versionOk0 Try.func91 rfl rfl (by kernel_rfl) versionD 400 (fun _ => []) (show 1 ≤ Try.f91.ntmps by decide) (show Try.f91.ntmps ≤ 512 by decide) (by kernel_rfl) (fun _ _ => ⟨rfl,rfl⟩)
  (fun x h => by
   obtain ⟨x,u⟩ := x
   exact version_ok x h.1 h.2
  ) (fun x h q hm => by cases hm)
theorem fresh_ok (x : Int) (s : Int) (h1 : 0 ≤ x) (h2 : x < 1099511627776) : Paid (entryX F (lookC l89) 400 Try.f70 b89 ⟨[],freshD.res ((x,s,()) : Int × Int × Unit),[]⟩ [.i .i64 (x),.i .i64 (s)]) := by
 refine ⟨?_⟩
 rw [fresh_e]
 repeat' (first | apply And.intro | intro _)
 all_goals exact wrl
theorem freshOk0 : CtrOk F.S (lookC l89) := lookC_ok fun p h => by
 simp only [l89,List.mem_cons,List.not_mem_nil,or_false] at h
 rcases h with rfl | rfl
 ·exact holderOk
 ·exact versionOk
theorem freshOk : CtrOk1 F.S 70 (mkCtr freshD) :=
 mkCtr_paid (fn := Try.f70) (body := b89) (ctr := lookC l89) codOk noExt hookLow freshOk0 Try.func70 rfl rfl (by kernel_rfl) freshD 400 (fun _ => []) (show 2 ≤ Try.f70.ntmps by decide) (show Try.f70.ntmps ≤ 512 by decide) (by kernel_rfl) (fun _ _ => ⟨rfl,rfl⟩)
  (fun x h => by
   obtain ⟨x,s,u⟩ := x
   exact fresh_ok x s h.1 h.2
  ) (fun x h q hm => by cases hm)
theorem taken_ok (x : Int) (t : Int) (h1 : 0 ≤ x) (h2 : x < 1099511627776) (h3 : 0 ≤ t) (h4 : t < 3) : Paid (entryX F (lookC l132) 400 Try.f94 b132 ⟨[],takenD.res ((x,t,()) : Int × Int × Unit),[]⟩ [.i .i64 (x),.i .i64 (t)]) := by
 refine ⟨?_⟩
 rw [taken_e]
 repeat' (first | apply And.intro | intro _)
 all_goals exact wrl
theorem takenOk0 : CtrOk F.S (lookC l132) := lookC_ok fun p h => by
 simp only [l132,List.mem_cons,List.not_mem_nil,or_false] at h
theorem takenOk : CtrOk1 F.S 94 (mkCtr takenD) :=
 mkCtr_paid (fn := Try.f94) (body := b132) (ctr := lookC l132) codOk noExt hookLow takenOk0 Try.func94 rfl rfl (by kernel_rfl) takenD 400 (fun _ => []) (show 2 ≤ Try.f94.ntmps by decide) (show Try.f94.ntmps ≤ 512 by decide) (by kernel_rfl) (fun _ _ => ⟨rfl,rfl⟩)
  (fun x h => by
   obtain ⟨x,t,u⟩ := x
   exact taken_ok x t h.1 h.2.1 h.2.2.1 h.2.2.2
  ) (fun x h q hm => by cases hm)
theorem free_ok (x : Int) (h1 : 0 ≤ x) (h2 : x < 68719476736) : Paid (entryX F (lookC l137) 400 Try.f98 b137 ⟨[],freeD.res ((x,()) : Int × Unit),[]⟩ [.i .i64 (x)]) := by
 refine ⟨?_⟩
 rw [free_e]
 repeat' (first | apply And.intro | intro _)
 all_goals exact wrl
theorem freeOk0 : CtrOk F.S (lookC l137) := lookC_ok fun p h => by
 simp only [l137,List.mem_cons,List.not_mem_nil,or_false] at h
theorem freeOk : CtrOk1 F.S 98 (mkCtr freeD) :=
 mkCtr_paid (fn := Try.f98) (body := b137) (ctr := lookC l137) codOk noExt hookLow freeOk0 Try.func98 rfl rfl (by kernel_rfl) freeD 400 (fun _ => []) (show 1 ≤ Try.f98.ntmps by decide) (show Try.f98.ntmps ≤ 512 by decide) (by kernel_rfl) (fun _ _ => ⟨rfl,rfl⟩)
  (fun x h => by
   obtain ⟨x,u⟩ := x
   exact free_ok x h.1 h.2
  ) (fun x h q hm => by cases hm)
end Go.Proofs.Ytmjjljngaefpaaa
