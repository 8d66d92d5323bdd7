/- TextWhere: its run. -/
import Derived.Test.YtbbbpnaghipfmaaDoorWp
import Derived.Test.YtbbbpnaghipfmaaDoorBp
namespace Go.Proofs.YtbbbpnaghipfmaaDoor
open Go.RowKit Go.Am Go.Sy
set_option linter.unusedVariables false
set_option linter.unusedSimpArgs false

theorem wh_e (good empty bad : Int) : Go.Sy.Tree.holds (entryX F (lookC l2) 200 Tryd.f5 b5 ⟨whCuts bad, .b true, []⟩ [.i .i64 good, .i .i64 empty, .i .i64 bad]) = ( ∃ (s : WhS), bad = bad ∧ IntKind.i64.wrap
 ((IntKind.u64.wrap good).tmod 40) = (↑s.g : Int) ∧ IntKind.i64.wrap ((IntKind.u64.wrap empty).tmod 40) = (↑s.n : Int) ∧ [] = List.replicate s.i (10 : UInt8) ∧ (0 : Int) = (↑s.i : Int) ∧ (s.i ≤ s.n ∧ s.n < 40 ∧ s.g < 40)
 ∧ True) := by kernel_rfl
theorem wh_c4 (bad : Int) (i n g : Nat) : Go.Sy.Tree.holds (cutVC F (lookC l2) 200 Tryd.f5 b5 (whF bad) 4 (whC4 bad) ⟨i, n, g⟩) = ( (decide ((↑i : Int) < (↑n : Int)) = true → (↑((List.replicate i (10 : UInt8)).length +
 [(10 : UInt8)].length) : Int) ≤ 9223372036854775807 ∧ ∃ (s : WhS), bad = bad ∧ (↑g : Int) = (↑s.g : Int) ∧ (↑n : Int) = (↑s.n : Int) ∧ List.replicate i (10 : UInt8) ++ [(10 : UInt8)] = List.replicate s.i (10 : UInt8) ∧
 IntKind.i64.wrap ((↑i : Int) + 1) = (↑s.i : Int) ∧ (s.i ≤ s.n ∧ s.n < 40 ∧ s.g < 40) ∧ (100 : Nat) + (s.n - s.i) < 100 + (n - i) ∧ True) ∧ (decide ((↑i : Int) < (↑n : Int)) = false → ∃ (s : WhS), bad = bad ∧ (↑g : Int) =
 (↑s.g : Int) ∧ (↑n : Int) = (↑s.n : Int) ∧ List.replicate i (10 : UInt8) = headS s.n s.i ∧ (0 : Int) = (↑s.i : Int) ∧ (s.i ≤ s.g ∧ s.n < 40 ∧ s.g < 40) ∧ (2 : Nat) + (s.g - s.i) < 100 + (n - i) ∧ True)) := by kernel_rfl
theorem wh_c8 (bad : Int) (i n g : Nat) : Go.Sy.Tree.holds (cutVC F (lookC l2) 200 Tryd.f5 b5 (whF bad) 8 (whC8 bad) ⟨i, n, g⟩) = ( (decide ((↑i : Int) < (↑g : Int)) = true → ((0 : Int) ≤ (↑i : Int).tmod 4 ∧ (↑i :
 Int).tmod 4 < 4) ∧ (↑([(108 : UInt8), 111, 103, 32].length + (decS ((↑i : Int).tmod 4)).length) : Int) ≤ 9223372036854775807 ∧ (↑(([(108 : UInt8), 111, 103, 32] ++ decS ((↑i : Int).tmod 4)).length + [(10 :
 UInt8)].length) : Int) ≤ 9223372036854775807 ∧ (↑((headS n i).length + ([(108 : UInt8), 111, 103, 32] ++ decS ((↑i : Int).tmod 4) ++ [(10 : UInt8)]).length) : Int) ≤ 9223372036854775807 ∧ ∃ (s : WhS), bad = bad ∧ (↑g :
 Int) = (↑s.g : Int) ∧ (↑n : Int) = (↑s.n : Int) ∧ headS n i ++ ([(108 : UInt8), 111, 103, 32] ++ decS ((↑i : Int).tmod 4) ++ [(10 : UInt8)]) = headS s.n s.i ∧ IntKind.i64.wrap ((↑i : Int) + 1) = (↑s.i : Int) ∧ (s.i ≤ s.g
 ∧ s.n < 40 ∧ s.g < 40) ∧ (2 : Nat) + (s.g - s.i) < 2 + (g - i) ∧ True) ∧ (decide ((↑i : Int) < (↑g : Int)) = false → ∃ (s : WhS), bad = bad ∧ (↑g : Int) = (↑s.g : Int) ∧ (↑n : Int) = (↑s.n : Int) ∧ headS n i = headS s.n
 s.g ∧ [[(108 : UInt8), 111, 103], [(108 : UInt8), 111, 103, 32, 52], [(108 : UInt8), 111, 103, 32, 32, 49], [(32 : UInt8), 108, 111, 103, 32, 49], [(108 : UInt8), 111, 103, 32, 49, 32], [(115 : UInt8), 101, 116, 32, 48,
 32, (48 : UInt8), 48], [(115 : UInt8), 101, 116, 32, 48, 32, (45 : UInt8), 48], [(115 : UInt8), 101, 116, 32, 48, 32, (57 : UInt8), 50, 50, 51, 51, 55, 50, (48 : UInt8), 51, 54, 56, 53, 52, 55, (55 : UInt8), 53, 56, 48,
 56], [(108 : UInt8), 101, 97, 118, 101, 32, (48 : UInt8)], [(76 : UInt8), 111, 103, 32, 49], [(115 : UInt8), 101, 116, 32, 48, 32, (43 : UInt8), 49], [(101 : UInt8), 110, 116, 101, 114, 32, (49 : UInt8), 32, 48], [(108 :
 UInt8), 111, 32, 103]] = bads ∧ (s.n < 40 ∧ s.g < 40) ∧ (1 : Nat) < 2 + (g - i) ∧ True)) := by kernel_rfl
theorem wh_c12 (bad : Int) (i n g : Nat) : Go.Sy.Tree.holds (cutVC F (lookC l2) 200 Tryd.f5 b5 (whF bad) 12 (whC12 bad) ⟨i, n, g⟩) = ( (13 : Int) ≠ (0 : Int) ∧ ((0 : Int) ≤ (IntKind.u64.wrap bad).tmod 13 ∧
 (IntKind.u64.wrap bad).tmod 13 < 13) ∧ (↑((at3 bads ((IntKind.u64.wrap bad).tmod 13)).length + [(10 : UInt8), 108, 101, 97, 118, 101, (10 : UInt8)].length) : Int) ≤ 9223372036854775807 ∧ (↑((headS n g).length + (at3 bads
 ((IntKind.u64.wrap bad).tmod 13) ++ [(10 : UInt8), 108, 101, 97, 118, 101, (10 : UInt8)]).length) : Int) ≤ 9223372036854775807 ∧ parseD.pre (headS n g ++ (at3 bads ((IntKind.u64.wrap bad).tmod 13) ++ [(10 : UInt8), 108,
 101, 97, 118, 101, (10 : UInt8)]), ()) ∧ ∃ (s : WhS), (↑g : Int) = (↑s.g : Int) ∧ (↑n : Int) = (↑s.n : Int) ∧ (parseS (headS n g ++ (at3 bads ((IntKind.u64.wrap bad).tmod 13) ++ [(10 : UInt8), 108, 101, 97, 118, 101, (10
 : UInt8)]))).fst = [] ∧ (parseS (headS n g ++ (at3 bads ((IntKind.u64.wrap bad).tmod 13) ++ [(10 : UInt8), 108, 101, 97, 118, 101, (10 : UInt8)]))).snd = ch (3 : Int) [P.mk (-1 : Int) ((↑s.n : Int) + (↑s.g : Int) + 1)] ∧
 (s.n < 40 ∧ s.g < 40) ∧ (0 : Nat) < 1 ∧ True) := by kernel_rfl
theorem wh_c14 (bad : Int) (i n g : Nat) : Go.Sy.Tree.holds (cutVC F (lookC l2) 200 Tryd.f5 b5 (whF bad) 14 whC14 ⟨i, n, g⟩) = ( (true = true → (true = true → (false = true → false = true ∧ True) ∧ (false = false → (false
 = true → false = true ∧ True) ∧ (false = false → (false = true → false = true ∧ True) ∧ (false = false → (false = true → false = true ∧ True) ∧ (false = false → (false = true → ((↑n : Int) + (↑g : Int) + 1 ==
 IntKind.i64.wrap (IntKind.i64.wrap ((↑n : Int) + (↑g : Int)) + 1)) = true ∧ True) ∧ (false = false → (true = true → ((↑n : Int) + (↑g : Int) + 1 == IntKind.i64.wrap (IntKind.i64.wrap ((↑n : Int) + (↑g : Int)) + 1)) =
 true ∧ True) ∧ (true = false → (false = true → false = true ∧ True) ∧ (false = false → (false = true → false = true ∧ True) ∧ (false = false → (false = true → false = true ∧ True) ∧ (false = false → (false = true → false
 = true ∧ True) ∧ (false = false → (false = true → false = true ∧ True) ∧ (false = false → (false = true → false = true ∧ True) ∧ (false = false → (false = true → false = true ∧ True) ∧ (false = false → (false = true →
 false = true ∧ True) ∧ (false = false → (false = true → false = true ∧ True) ∧ (false = false → (false = true → false = true ∧ True) ∧ (false = false → (false = true → false = true ∧ True) ∧ (false = false → (false =
 true → false = true ∧ True) ∧ (false = false → Stuck "fuel"))))))))))))))))))) ∧ (true = false → false = true ∧ True)) ∧ (true = false → (true = true → (false = true → false = true ∧ True) ∧ (false = false → (false =
 true → false = true ∧ True) ∧ (false = false → (false = true → false = true ∧ True) ∧ (false = false → (false = true → false = true ∧ True) ∧ (false = false → (false = true → false = true ∧ True) ∧ (false = false → (true
 = true → false = true ∧ True) ∧ (true = false → (false = true → false = true ∧ True) ∧ (false = false → (false = true → false = true ∧ True) ∧ (false = false → (false = true → false = true ∧ True) ∧ (false = false →
 (false = true → false = true ∧ True) ∧ (false = false → (false = true → false = true ∧ True) ∧ (false = false → (false = true → false = true ∧ True) ∧ (false = false → (false = true → false = true ∧ True) ∧ (false =
 false → (false = true → false = true ∧ True) ∧ (false = false → (false = true → false = true ∧ True) ∧ (false = false → (false = true → false = true ∧ True) ∧ (false = false → (false = true → false = true ∧ True) ∧
 (false = false → (false = true → false = true ∧ True) ∧ (false = false → Stuck "fuel"))))))))))))))))))) ∧ (true = false → false = true ∧ True))) := by kernel_rfl

theorem l2Ok : CtrOk F.S (lookC l2) := lookC_ok fun p h => by
  simp only [l2, List.mem_cons, List.not_mem_nil, or_false] at h
  rcases h with rfl | rfl | rfl | rfl
  · exact tellOk
  · exact parseOk
  · exact decOk
  · exact asCtr_ok
theorem rem40 (x : Int) : ∃ m : Nat, m < 40 ∧ IntKind.wrap .i64 ((IntKind.wrap .u64 x).tmod 40) = (m : Int) := by
  have h : IntKind.wrap .u64 x = x % 18446744073709551616 := by
    simp only [IntKind.wrap, IntKind.signed, IntKind.bits]
    simp
  rw [h, Int.tmod_eq_emod_of_nonneg (by omega)]
  refine ⟨(x % 18446744073709551616 % 40).toNat, by omega, ?_⟩
  rw [wrap64 (by omega) (by omega)]
  omega
theorem rem13 (x : Int) : ∃ m : Nat, m < 13 ∧ (IntKind.wrap .u64 x).tmod 13 = (m : Int) := by
  have h : IntKind.wrap .u64 x = x % 18446744073709551616 := by
    simp only [IntKind.wrap, IntKind.signed, IntKind.bits]
    simp
  rw [h, Int.tmod_eq_emod_of_nonneg (by omega)]
  exact ⟨(x % 18446744073709551616 % 13).toNat, by omega, by omega⟩
theorem wh_e_paid (good empty bad : Int) : Paid (entryX F (lookC l2) 200 Tryd.f5 b5 ⟨whCuts bad, .b true, []⟩ [.i .i64 good, .i .i64 empty, .i .i64 bad]) := by
  refine ⟨?_⟩
  rw [wh_e]
  obtain ⟨g, hg, e1⟩ := rem40 good
  obtain ⟨n, hn, e2⟩ := rem40 empty
  exact ⟨⟨0, n, g⟩, rfl, e1, e2, rfl, rfl, ⟨Nat.zero_le _, hn, hg⟩, trivial⟩
theorem wh_c4_ok (bad : Int) (x : WhS) (hI : x.i ≤ x.n ∧ x.n < 40 ∧ x.g < 40) : Go.Sy.Tree.holds (cutVC F (lookC l2) 200 Tryd.f5 b5 (whF bad) 4 (whC4 bad) x) := by
  obtain ⟨i, n, g⟩ := x
  obtain ⟨h1, h2, h3⟩ := hI
  simp only at h1 h2 h3
  rw [wh_c4]
  refine ⟨fun h => ⟨?_, ⟨i + 1, n, g⟩, rfl, rfl, rfl, ?_, ?_, ⟨?_, h2, h3⟩, ?_, trivial⟩, fun h => ?_⟩
  · simp only [List.length_replicate, List.length_cons, List.length_nil]; omega
  · exact List.replicate_succ'.symm
  · rw [wrap64 (by omega) (by omega)]; rfl
  · simp only [decide_eq_true_eq] at h; show i + 1 ≤ n; omega
  · simp only [decide_eq_true_eq] at h; show 100 + (n - (i + 1)) < 100 + (n - i); omega
  · simp only [decide_eq_false_iff_not] at h
    obtain rfl : i = n := by omega
    refine ⟨⟨0, i, g⟩, rfl, rfl, rfl, ?_, rfl, ⟨Nat.zero_le _, h2, h3⟩, ?_, trivial⟩
    · exact (List.append_nil _).symm
    · show 2 + (g - 0) < 100 + (i - i); omega
theorem wh_c8_ok (bad : Int) (x : WhS) (hI : x.i ≤ x.g ∧ x.n < 40 ∧ x.g < 40) : Go.Sy.Tree.holds (cutVC F (lookC l2) 200 Tryd.f5 b5 (whF bad) 8 (whC8 bad) x) := by
  obtain ⟨i, n, g⟩ := x
  obtain ⟨h1, h2, h3⟩ := hI
  simp only at h1 h2 h3
  rw [wh_c8]
  have ht : (i : Int).tmod 4 = ((i % 4 : Nat) : Int) := by rw [Int.tmod_eq_emod_of_nonneg (by omega)]; rfl
  have hd : ∀ n, (decS n).length = 1 := fun _ => rfl
  rw [ht]
  refine ⟨fun h => ⟨⟨by omega, by omega⟩, ?_, ?_, ?_, ⟨i + 1, n, g⟩, rfl, rfl, rfl, ?_, ?_, ⟨?_, h2, h3⟩, ?_, trivial⟩, fun h => ?_⟩
  · simp only [hd, List.length_cons, List.length_nil]; decide
  · simp only [hd, List.length_append, List.length_cons, List.length_nil]; decide
  · simp only [hd, headS, List.length_append, List.length_replicate, goodS_length, List.length_cons, List.length_nil]; omega
  · simp only [headS, goodS, List.append_assoc]
  · rw [wrap64 (by omega) (by omega)]; rfl
  · simp only [decide_eq_true_eq] at h; show i + 1 ≤ g; omega
  · simp only [decide_eq_true_eq] at h; show 2 + (g - (i + 1)) < 2 + (g - i); omega
  · simp only [decide_eq_false_iff_not] at h
    obtain rfl : i = g := by omega
    exact ⟨⟨0, n, i⟩, rfl, rfl, rfl, rfl, rfl, ⟨h2, h3⟩, by show 1 < 2 + (i - i); omega, trivial⟩
theorem wh_c12_ok (bad : Int) (x : WhS) (hI : x.n < 40 ∧ x.g < 40) : Go.Sy.Tree.holds (cutVC F (lookC l2) 200 Tryd.f5 b5 (whF bad) 12 (whC12 bad) x) := by
  obtain ⟨i, n, g⟩ := x
  have h2 : n < 40 := hI.1
  have h3 : g < 40 := hI.2
  rw [wh_c12]
  obtain ⟨m, hm, e⟩ := rem13 bad
  rw [e]
  have hb : m < bads.length := hm
  rw [at3_get hb]
  have hw : bads[m] ∈ bads := List.getElem_mem hb
  generalize bads[m] = w at hw ⊢
  have hl := where_len n g w hw h2 h3
  have hp := where_pre n g w hw
  have hs := where_is n g w hw h2 h3
  have hl' := hl
  simp only [tailS, List.length_append, List.length_cons, List.length_nil] at hl'
  unfold tailS at hl hp hs
  refine ⟨by decide, ⟨by omega, by omega⟩, ?_, ?_, ⟨?_, fun _ => hp⟩, ⟨0, n, g⟩, rfl, rfl, by rw [hs], by rw [hs], ⟨h2, h3⟩, by decide, trivial⟩
  · simp only [List.length_append, List.length_cons, List.length_nil]; omega
  · simp only [List.length_append, List.length_cons, List.length_nil]; omega
  · show (headS n g ++ (w ++ [10, 108, 101, 97, 118, 101, 10])).length < 4294967281
    omega
theorem wh_c14_ok (bad : Int) (x : WhS) (hI : x.n < 40 ∧ x.g < 40) : Go.Sy.Tree.holds (cutVC F (lookC l2) 200 Tryd.f5 b5 (whF bad) 14 whC14 x) := by
  obtain ⟨i, n, g⟩ := x
  have h2 : n < 40 := hI.1
  have h3 : g < 40 := hI.2
  rw [wh_c14]
  have e : IntKind.wrap .i64 (IntKind.wrap .i64 ((n : Int) + g) + 1) = (n : Int) + g + 1 := by
    rw [wrap64 (n := (n : Int) + g) (by omega) (by omega), wrap64 (by omega) (by omega)]
  rw [e]
  simp
set_option maxRecDepth 10000 in
theorem wh_cuts_ok (bad : Int) : ∀ p, p ∈ whCuts bad → ∀ s, p.2.I s → Paid (cutVC F (lookC l2) 200 Tryd.f5 b5 ⟨whCuts bad, .b true, []⟩ p.1 p.2 s) := by
  intro p hm s hI
  simp only [whCuts, List.mem_cons, List.not_mem_nil, or_false] at hm
  rcases hm with rfl | rfl | rfl | rfl
  · exact ⟨wh_c4_ok bad s hI⟩
  · exact ⟨wh_c8_ok bad s hI⟩
  · exact ⟨wh_c12_ok bad s hI⟩
  · exact ⟨wh_c14_ok bad s hI⟩
set_option maxRecDepth 10000 in
theorem where_run (good empty bad : Int) {av : List AVal} (hA : Ers (C := cod) (away []) [.i .i64 good, .i .i64 empty, .i .i64 bad] av) : ∃ n H', runA F.S n 0 5 av [] = some (.bool true, H') :=
  law_paid (F := F) (fn := Tryd.f5) (body := b5) (args := [.i .i64 good, .i .i64 empty, .i .i64 bad]) codOk noExt hookLow l2Ok Tryd.func5 rfl (by kernel_rfl) (by kernel_rfl) 200 (whCuts bad) (show 3 ≤ Tryd.f5.ntmps by decide) (show Tryd.f5.ntmps ≤ 512 by decide) (by kernel_rfl)
    (wh_e_paid good empty bad) (wh_cuts_ok bad) hA
end Go.Proofs.YtbbbpnaghipfmaaDoor
