/- The law BlameCodes as an idealised run: its runs, part 0. -/
import Derived.Test.YtomlcdalhihnaaaDoorCodesHead
namespace Go.Proofs.YtomlcdalhihnaaaDoor.blameCodes
open Go.Am
theorem r_1_1 : run3 1 1 [] = some (.bool true, []) := by kernel_rfl
theorem e_1_1  : ∃ H', runA S 5000 0 4 [.int .i64 1, .int .i64 1] [] = some (.bool true, H') := runS_ok (hookSimN toldL) 5000 (r_1_1) trivial
theorem r_1_2 : run3 1 2 [] = some (.bool true, []) := by kernel_rfl
theorem e_1_2  : ∃ H', runA S 5000 0 4 [.int .i64 1, .int .i64 2] [] = some (.bool true, H') := runS_ok (hookSimN toldL) 5000 (r_1_2) trivial
theorem r_1_3 : run3 1 3 [] = some (.bool true, []) := by kernel_rfl
theorem e_1_3  : ∃ H', runA S 5000 0 4 [.int .i64 1, .int .i64 3] [] = some (.bool true, H') := runS_ok (hookSimN toldL) 5000 (r_1_3) trivial
theorem r_1_4 : run3 1 4 [] = some (.bool true, []) := by kernel_rfl
theorem e_1_4  : ∃ H', runA S 5000 0 4 [.int .i64 1, .int .i64 4] [] = some (.bool true, H') := runS_ok (hookSimN toldL) 5000 (r_1_4) trivial
theorem r_1_5 : run3 1 5 [] = some (.bool true, []) := by kernel_rfl
theorem e_1_5  : ∃ H', runA S 5000 0 4 [.int .i64 1, .int .i64 5] [] = some (.bool true, H') := runS_ok (hookSimN toldL) 5000 (r_1_5) trivial
theorem r_1_6 : run3 1 6 [] = some (.bool true, []) := by kernel_rfl
theorem e_1_6  : ∃ H', runA S 5000 0 4 [.int .i64 1, .int .i64 6] [] = some (.bool true, H') := runS_ok (hookSimN toldL) 5000 (r_1_6) trivial
theorem r_1_7 : run3 1 7 [] = some (.bool true, []) := by kernel_rfl
theorem e_1_7  : ∃ H', runA S 5000 0 4 [.int .i64 1, .int .i64 7] [] = some (.bool true, H') := runS_ok (hookSimN toldL) 5000 (r_1_7) trivial
theorem r_1_8 : run3 1 8 [] = some (.bool true, []) := by kernel_rfl
theorem e_1_8  : ∃ H', runA S 5000 0 4 [.int .i64 1, .int .i64 8] [] = some (.bool true, H') := runS_ok (hookSimN toldL) 5000 (r_1_8) trivial
theorem r_1_9 : run3 1 9 [] = some (.bool true, []) := by kernel_rfl
theorem e_1_9  : ∃ H', runA S 5000 0 4 [.int .i64 1, .int .i64 9] [] = some (.bool true, H') := runS_ok (hookSimN toldL) 5000 (r_1_9) trivial
theorem r_1_10 : run3 1 10 [] = some (.bool true, []) := by kernel_rfl
theorem e_1_10  : ∃ H', runA S 5000 0 4 [.int .i64 1, .int .i64 10] [] = some (.bool true, H') := runS_ok (hookSimN toldL) 5000 (r_1_10) trivial
theorem r_1_lo (b : Int) : run3 1 b [(1, 3, .into scNew), (3, 8, .val (.bool false))] = some (.bool true, [ne b 1, ne b 2, ne b 3, ne b 4, ne b 5, ne b 6, ne b 7, ne b 8, ne b 9, ne b 10, ge b false]) := by kernel_rfl
theorem e_1_lo (b : Int) (hb : b < 1) : ∃ H', runA S 5000 0 4 [.int .i64 1, .int .i64 b] [] = some (.bool true, H') := runS_ok (hookSimN toldL) 5000 (r_1_lo b) ⟨ne_of (by omega), ne_of (by omega), ne_of (by omega), ne_of (by omega), ne_of (by omega), ne_of (by omega), ne_of (by omega), ne_of (by omega), ne_of (by omega), ne_of (by omega), ge_of (by simp; omega), trivial⟩
theorem r_1_hi (b : Int) : run3 1 b [(1, 3, .into scNew), (3, 8, .val (.bool true)), (3, 11, .val (.bool false))] = some (.bool true, [ne b 1, ne b 2, ne b 3, ne b 4, ne b 5, ne b 6, ne b 7, ne b 8, ne b 9, ne b 10, ge b true, le b false]) := by kernel_rfl
theorem e_1_hi (b : Int) (hb : 10 < b) : ∃ H', runA S 5000 0 4 [.int .i64 1, .int .i64 b] [] = some (.bool true, H') := runS_ok (hookSimN toldL) 5000 (r_1_hi b) ⟨ne_of (by omega), ne_of (by omega), ne_of (by omega), ne_of (by omega), ne_of (by omega), ne_of (by omega), ne_of (by omega), ne_of (by omega), ne_of (by omega), ne_of (by omega), ge_of (by simp; omega), le_of (by simp; omega), trivial⟩
theorem r_2_1 : run3 2 1 [] = some (.bool true, []) := by kernel_rfl
theorem e_2_1  : ∃ H', runA S 5000 0 4 [.int .i64 2, .int .i64 1] [] = some (.bool true, H') := runS_ok (hookSimN toldL) 5000 (r_2_1) trivial
theorem r_2_2 : run3 2 2 [] = some (.bool true, []) := by kernel_rfl
theorem e_2_2  : ∃ H', runA S 5000 0 4 [.int .i64 2, .int .i64 2] [] = some (.bool true, H') := runS_ok (hookSimN toldL) 5000 (r_2_2) trivial
theorem r_2_3 : run3 2 3 [] = some (.bool true, []) := by kernel_rfl
theorem e_2_3  : ∃ H', runA S 5000 0 4 [.int .i64 2, .int .i64 3] [] = some (.bool true, H') := runS_ok (hookSimN toldL) 5000 (r_2_3) trivial
theorem r_2_4 : run3 2 4 [] = some (.bool true, []) := by kernel_rfl
theorem e_2_4  : ∃ H', runA S 5000 0 4 [.int .i64 2, .int .i64 4] [] = some (.bool true, H') := runS_ok (hookSimN toldL) 5000 (r_2_4) trivial
theorem r_2_5 : run3 2 5 [] = some (.bool true, []) := by kernel_rfl
theorem e_2_5  : ∃ H', runA S 5000 0 4 [.int .i64 2, .int .i64 5] [] = some (.bool true, H') := runS_ok (hookSimN toldL) 5000 (r_2_5) trivial
theorem r_2_6 : run3 2 6 [] = some (.bool true, []) := by kernel_rfl
theorem e_2_6  : ∃ H', runA S 5000 0 4 [.int .i64 2, .int .i64 6] [] = some (.bool true, H') := runS_ok (hookSimN toldL) 5000 (r_2_6) trivial
theorem r_2_7 : run3 2 7 [] = some (.bool true, []) := by kernel_rfl
theorem e_2_7  : ∃ H', runA S 5000 0 4 [.int .i64 2, .int .i64 7] [] = some (.bool true, H') := runS_ok (hookSimN toldL) 5000 (r_2_7) trivial
theorem r_2_8 : run3 2 8 [] = some (.bool true, []) := by kernel_rfl
theorem e_2_8  : ∃ H', runA S 5000 0 4 [.int .i64 2, .int .i64 8] [] = some (.bool true, H') := runS_ok (hookSimN toldL) 5000 (r_2_8) trivial
theorem r_2_9 : run3 2 9 [] = some (.bool true, []) := by kernel_rfl
theorem e_2_9  : ∃ H', runA S 5000 0 4 [.int .i64 2, .int .i64 9] [] = some (.bool true, H') := runS_ok (hookSimN toldL) 5000 (r_2_9) trivial
theorem r_2_10 : run3 2 10 [] = some (.bool true, []) := by kernel_rfl
theorem e_2_10  : ∃ H', runA S 5000 0 4 [.int .i64 2, .int .i64 10] [] = some (.bool true, H') := runS_ok (hookSimN toldL) 5000 (r_2_10) trivial
theorem r_2_lo (b : Int) : run3 2 b [(1, 3, .into scNew), (3, 8, .val (.bool false))] = some (.bool true, [ne b 1, ne b 2, ne b 3, ne b 4, ne b 5, ne b 6, ne b 7, ne b 8, ne b 9, ne b 10, ge b false]) := by kernel_rfl
theorem e_2_lo (b : Int) (hb : b < 1) : ∃ H', runA S 5000 0 4 [.int .i64 2, .int .i64 b] [] = some (.bool true, H') := runS_ok (hookSimN toldL) 5000 (r_2_lo b) ⟨ne_of (by omega), ne_of (by omega), ne_of (by omega), ne_of (by omega), ne_of (by omega), ne_of (by omega), ne_of (by omega), ne_of (by omega), ne_of (by omega), ne_of (by omega), ge_of (by simp; omega), trivial⟩
theorem r_2_hi (b : Int) : run3 2 b [(1, 3, .into scNew), (3, 8, .val (.bool true)), (3, 11, .val (.bool false))] = some (.bool true, [ne b 1, ne b 2, ne b 3, ne b 4, ne b 5, ne b 6, ne b 7, ne b 8, ne b 9, ne b 10, ge b true, le b false]) := by kernel_rfl
theorem e_2_hi (b : Int) (hb : 10 < b) : ∃ H', runA S 5000 0 4 [.int .i64 2, .int .i64 b] [] = some (.bool true, H') := runS_ok (hookSimN toldL) 5000 (r_2_hi b) ⟨ne_of (by omega), ne_of (by omega), ne_of (by omega), ne_of (by omega), ne_of (by omega), ne_of (by omega), ne_of (by omega), ne_of (by omega), ne_of (by omega), ne_of (by omega), ge_of (by simp; omega), le_of (by simp; omega), trivial⟩
theorem r_3_1 : run3 3 1 [] = some (.bool true, []) := by kernel_rfl
theorem e_3_1  : ∃ H', runA S 5000 0 4 [.int .i64 3, .int .i64 1] [] = some (.bool true, H') := runS_ok (hookSimN toldL) 5000 (r_3_1) trivial
theorem r_3_2 : run3 3 2 [] = some (.bool true, []) := by kernel_rfl
theorem e_3_2  : ∃ H', runA S 5000 0 4 [.int .i64 3, .int .i64 2] [] = some (.bool true, H') := runS_ok (hookSimN toldL) 5000 (r_3_2) trivial
theorem r_3_3 : run3 3 3 [] = some (.bool true, []) := by kernel_rfl
theorem e_3_3  : ∃ H', runA S 5000 0 4 [.int .i64 3, .int .i64 3] [] = some (.bool true, H') := runS_ok (hookSimN toldL) 5000 (r_3_3) trivial
theorem r_3_4 : run3 3 4 [] = some (.bool true, []) := by kernel_rfl
theorem e_3_4  : ∃ H', runA S 5000 0 4 [.int .i64 3, .int .i64 4] [] = some (.bool true, H') := runS_ok (hookSimN toldL) 5000 (r_3_4) trivial
theorem r_3_5 : run3 3 5 [] = some (.bool true, []) := by kernel_rfl
theorem e_3_5  : ∃ H', runA S 5000 0 4 [.int .i64 3, .int .i64 5] [] = some (.bool true, H') := runS_ok (hookSimN toldL) 5000 (r_3_5) trivial
theorem r_3_6 : run3 3 6 [] = some (.bool true, []) := by kernel_rfl
theorem e_3_6  : ∃ H', runA S 5000 0 4 [.int .i64 3, .int .i64 6] [] = some (.bool true, H') := runS_ok (hookSimN toldL) 5000 (r_3_6) trivial
theorem r_3_7 : run3 3 7 [] = some (.bool true, []) := by kernel_rfl
theorem e_3_7  : ∃ H', runA S 5000 0 4 [.int .i64 3, .int .i64 7] [] = some (.bool true, H') := runS_ok (hookSimN toldL) 5000 (r_3_7) trivial
theorem r_3_8 : run3 3 8 [] = some (.bool true, []) := by kernel_rfl
theorem e_3_8  : ∃ H', runA S 5000 0 4 [.int .i64 3, .int .i64 8] [] = some (.bool true, H') := runS_ok (hookSimN toldL) 5000 (r_3_8) trivial
theorem r_3_9 : run3 3 9 [] = some (.bool true, []) := by kernel_rfl
theorem e_3_9  : ∃ H', runA S 5000 0 4 [.int .i64 3, .int .i64 9] [] = some (.bool true, H') := runS_ok (hookSimN toldL) 5000 (r_3_9) trivial
theorem r_3_10 : run3 3 10 [] = some (.bool true, []) := by kernel_rfl
theorem e_3_10  : ∃ H', runA S 5000 0 4 [.int .i64 3, .int .i64 10] [] = some (.bool true, H') := runS_ok (hookSimN toldL) 5000 (r_3_10) trivial
theorem r_3_lo (b : Int) : run3 3 b [(1, 3, .into scNew), (3, 8, .val (.bool false))] = some (.bool true, [ne b 1, ne b 2, ne b 3, ne b 4, ne b 5, ne b 6, ne b 7, ne b 8, ne b 9, ne b 10, ge b false]) := by kernel_rfl
theorem e_3_lo (b : Int) (hb : b < 1) : ∃ H', runA S 5000 0 4 [.int .i64 3, .int .i64 b] [] = some (.bool true, H') := runS_ok (hookSimN toldL) 5000 (r_3_lo b) ⟨ne_of (by omega), ne_of (by omega), ne_of (by omega), ne_of (by omega), ne_of (by omega), ne_of (by omega), ne_of (by omega), ne_of (by omega), ne_of (by omega), ne_of (by omega), ge_of (by simp; omega), trivial⟩
theorem r_3_hi (b : Int) : run3 3 b [(1, 3, .into scNew), (3, 8, .val (.bool true)), (3, 11, .val (.bool false))] = some (.bool true, [ne b 1, ne b 2, ne b 3, ne b 4, ne b 5, ne b 6, ne b 7, ne b 8, ne b 9, ne b 10, ge b true, le b false]) := by kernel_rfl
theorem e_3_hi (b : Int) (hb : 10 < b) : ∃ H', runA S 5000 0 4 [.int .i64 3, .int .i64 b] [] = some (.bool true, H') := runS_ok (hookSimN toldL) 5000 (r_3_hi b) ⟨ne_of (by omega), ne_of (by omega), ne_of (by omega), ne_of (by omega), ne_of (by omega), ne_of (by omega), ne_of (by omega), ne_of (by omega), ne_of (by omega), ne_of (by omega), ge_of (by simp; omega), le_of (by simp; omega), trivial⟩
end Go.Proofs.YtomlcdalhihnaaaDoor.blameCodes
