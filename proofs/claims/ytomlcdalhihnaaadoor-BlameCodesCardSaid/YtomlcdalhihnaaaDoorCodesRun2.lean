/- The law BlameCodes as an idealised run: its runs, part 2. -/
import Derived.Test.YtomlcdalhihnaaaDoorCodesHead
namespace Go.Proofs.YtomlcdalhihnaaaDoor.blameCodes
open Go.Am
theorem r_7_1 : run3 7 1 [] = some (.bool true, []) := by kernel_rfl
theorem e_7_1  : ∃ H', runA S 5000 0 4 [.int .i64 7, .int .i64 1] [] = some (.bool true, H') := runS_ok (hookSimN toldL) 5000 (r_7_1) trivial
theorem r_7_2 : run3 7 2 [] = some (.bool true, []) := by kernel_rfl
theorem e_7_2  : ∃ H', runA S 5000 0 4 [.int .i64 7, .int .i64 2] [] = some (.bool true, H') := runS_ok (hookSimN toldL) 5000 (r_7_2) trivial
theorem r_7_3 : run3 7 3 [] = some (.bool true, []) := by kernel_rfl
theorem e_7_3  : ∃ H', runA S 5000 0 4 [.int .i64 7, .int .i64 3] [] = some (.bool true, H') := runS_ok (hookSimN toldL) 5000 (r_7_3) trivial
theorem r_7_4 : run3 7 4 [] = some (.bool true, []) := by kernel_rfl
theorem e_7_4  : ∃ H', runA S 5000 0 4 [.int .i64 7, .int .i64 4] [] = some (.bool true, H') := runS_ok (hookSimN toldL) 5000 (r_7_4) trivial
theorem r_7_5 : run3 7 5 [] = some (.bool true, []) := by kernel_rfl
theorem e_7_5  : ∃ H', runA S 5000 0 4 [.int .i64 7, .int .i64 5] [] = some (.bool true, H') := runS_ok (hookSimN toldL) 5000 (r_7_5) trivial
theorem r_7_6 : run3 7 6 [] = some (.bool true, []) := by kernel_rfl
theorem e_7_6  : ∃ H', runA S 5000 0 4 [.int .i64 7, .int .i64 6] [] = some (.bool true, H') := runS_ok (hookSimN toldL) 5000 (r_7_6) trivial
theorem r_7_7 : run3 7 7 [] = some (.bool true, []) := by kernel_rfl
theorem e_7_7  : ∃ H', runA S 5000 0 4 [.int .i64 7, .int .i64 7] [] = some (.bool true, H') := runS_ok (hookSimN toldL) 5000 (r_7_7) trivial
theorem r_7_8 : run3 7 8 [] = some (.bool true, []) := by kernel_rfl
theorem e_7_8  : ∃ H', runA S 5000 0 4 [.int .i64 7, .int .i64 8] [] = some (.bool true, H') := runS_ok (hookSimN toldL) 5000 (r_7_8) trivial
theorem r_7_9 : run3 7 9 [] = some (.bool true, []) := by kernel_rfl
theorem e_7_9  : ∃ H', runA S 5000 0 4 [.int .i64 7, .int .i64 9] [] = some (.bool true, H') := runS_ok (hookSimN toldL) 5000 (r_7_9) trivial
theorem r_7_10 : run3 7 10 [] = some (.bool true, []) := by kernel_rfl
theorem e_7_10  : ∃ H', runA S 5000 0 4 [.int .i64 7, .int .i64 10] [] = some (.bool true, H') := runS_ok (hookSimN toldL) 5000 (r_7_10) trivial
theorem r_7_lo (b : Int) : run3 7 b [(1, 3, .into scNew), (3, 8, .val (.bool false))] = some (.bool true, [ne b 1, ne b 2, ne b 3, ne b 4, ne b 5, ne b 6, ne b 7, ne b 8, ne b 9, ne b 10, ge b false]) := by kernel_rfl
theorem e_7_lo (b : Int) (hb : b < 1) : ∃ H', runA S 5000 0 4 [.int .i64 7, .int .i64 b] [] = some (.bool true, H') := runS_ok (hookSimN toldL) 5000 (r_7_lo b) ⟨ne_of (by omega), ne_of (by omega), ne_of (by omega), ne_of (by omega), ne_of (by omega), ne_of (by omega), ne_of (by omega), ne_of (by omega), ne_of (by omega), ne_of (by omega), ge_of (by simp; omega), trivial⟩
theorem r_7_hi (b : Int) : run3 7 b [(1, 3, .into scNew), (3, 8, .val (.bool true)), (3, 11, .val (.bool false))] = some (.bool true, [ne b 1, ne b 2, ne b 3, ne b 4, ne b 5, ne b 6, ne b 7, ne b 8, ne b 9, ne b 10, ge b true, le b false]) := by kernel_rfl
theorem e_7_hi (b : Int) (hb : 10 < b) : ∃ H', runA S 5000 0 4 [.int .i64 7, .int .i64 b] [] = some (.bool true, H') := runS_ok (hookSimN toldL) 5000 (r_7_hi b) ⟨ne_of (by omega), ne_of (by omega), ne_of (by omega), ne_of (by omega), ne_of (by omega), ne_of (by omega), ne_of (by omega), ne_of (by omega), ne_of (by omega), ne_of (by omega), ge_of (by simp; omega), le_of (by simp; omega), trivial⟩
theorem r_8_1 : run3 8 1 [] = some (.bool true, []) := by kernel_rfl
theorem e_8_1  : ∃ H', runA S 5000 0 4 [.int .i64 8, .int .i64 1] [] = some (.bool true, H') := runS_ok (hookSimN toldL) 5000 (r_8_1) trivial
theorem r_8_2 : run3 8 2 [] = some (.bool true, []) := by kernel_rfl
theorem e_8_2  : ∃ H', runA S 5000 0 4 [.int .i64 8, .int .i64 2] [] = some (.bool true, H') := runS_ok (hookSimN toldL) 5000 (r_8_2) trivial
theorem r_8_3 : run3 8 3 [] = some (.bool true, []) := by kernel_rfl
theorem e_8_3  : ∃ H', runA S 5000 0 4 [.int .i64 8, .int .i64 3] [] = some (.bool true, H') := runS_ok (hookSimN toldL) 5000 (r_8_3) trivial
theorem r_8_4 : run3 8 4 [] = some (.bool true, []) := by kernel_rfl
theorem e_8_4  : ∃ H', runA S 5000 0 4 [.int .i64 8, .int .i64 4] [] = some (.bool true, H') := runS_ok (hookSimN toldL) 5000 (r_8_4) trivial
theorem r_8_5 : run3 8 5 [] = some (.bool true, []) := by kernel_rfl
theorem e_8_5  : ∃ H', runA S 5000 0 4 [.int .i64 8, .int .i64 5] [] = some (.bool true, H') := runS_ok (hookSimN toldL) 5000 (r_8_5) trivial
theorem r_8_6 : run3 8 6 [] = some (.bool true, []) := by kernel_rfl
theorem e_8_6  : ∃ H', runA S 5000 0 4 [.int .i64 8, .int .i64 6] [] = some (.bool true, H') := runS_ok (hookSimN toldL) 5000 (r_8_6) trivial
theorem r_8_7 : run3 8 7 [] = some (.bool true, []) := by kernel_rfl
theorem e_8_7  : ∃ H', runA S 5000 0 4 [.int .i64 8, .int .i64 7] [] = some (.bool true, H') := runS_ok (hookSimN toldL) 5000 (r_8_7) trivial
theorem r_8_8 : run3 8 8 [] = some (.bool true, []) := by kernel_rfl
theorem e_8_8  : ∃ H', runA S 5000 0 4 [.int .i64 8, .int .i64 8] [] = some (.bool true, H') := runS_ok (hookSimN toldL) 5000 (r_8_8) trivial
theorem r_8_9 : run3 8 9 [] = some (.bool true, []) := by kernel_rfl
theorem e_8_9  : ∃ H', runA S 5000 0 4 [.int .i64 8, .int .i64 9] [] = some (.bool true, H') := runS_ok (hookSimN toldL) 5000 (r_8_9) trivial
theorem r_8_10 : run3 8 10 [] = some (.bool true, []) := by kernel_rfl
theorem e_8_10  : ∃ H', runA S 5000 0 4 [.int .i64 8, .int .i64 10] [] = some (.bool true, H') := runS_ok (hookSimN toldL) 5000 (r_8_10) trivial
theorem r_8_lo (b : Int) : run3 8 b [(1, 3, .into scNew), (3, 8, .val (.bool false))] = some (.bool true, [ne b 1, ne b 2, ne b 3, ne b 4, ne b 5, ne b 6, ne b 7, ne b 8, ne b 9, ne b 10, ge b false]) := by kernel_rfl
theorem e_8_lo (b : Int) (hb : b < 1) : ∃ H', runA S 5000 0 4 [.int .i64 8, .int .i64 b] [] = some (.bool true, H') := runS_ok (hookSimN toldL) 5000 (r_8_lo b) ⟨ne_of (by omega), ne_of (by omega), ne_of (by omega), ne_of (by omega), ne_of (by omega), ne_of (by omega), ne_of (by omega), ne_of (by omega), ne_of (by omega), ne_of (by omega), ge_of (by simp; omega), trivial⟩
theorem r_8_hi (b : Int) : run3 8 b [(1, 3, .into scNew), (3, 8, .val (.bool true)), (3, 11, .val (.bool false))] = some (.bool true, [ne b 1, ne b 2, ne b 3, ne b 4, ne b 5, ne b 6, ne b 7, ne b 8, ne b 9, ne b 10, ge b true, le b false]) := by kernel_rfl
theorem e_8_hi (b : Int) (hb : 10 < b) : ∃ H', runA S 5000 0 4 [.int .i64 8, .int .i64 b] [] = some (.bool true, H') := runS_ok (hookSimN toldL) 5000 (r_8_hi b) ⟨ne_of (by omega), ne_of (by omega), ne_of (by omega), ne_of (by omega), ne_of (by omega), ne_of (by omega), ne_of (by omega), ne_of (by omega), ne_of (by omega), ne_of (by omega), ge_of (by simp; omega), le_of (by simp; omega), trivial⟩
theorem r_9_1 : run3 9 1 [] = some (.bool true, []) := by kernel_rfl
theorem e_9_1  : ∃ H', runA S 5000 0 4 [.int .i64 9, .int .i64 1] [] = some (.bool true, H') := runS_ok (hookSimN toldL) 5000 (r_9_1) trivial
theorem r_9_2 : run3 9 2 [] = some (.bool true, []) := by kernel_rfl
theorem e_9_2  : ∃ H', runA S 5000 0 4 [.int .i64 9, .int .i64 2] [] = some (.bool true, H') := runS_ok (hookSimN toldL) 5000 (r_9_2) trivial
theorem r_9_3 : run3 9 3 [] = some (.bool true, []) := by kernel_rfl
theorem e_9_3  : ∃ H', runA S 5000 0 4 [.int .i64 9, .int .i64 3] [] = some (.bool true, H') := runS_ok (hookSimN toldL) 5000 (r_9_3) trivial
theorem r_9_4 : run3 9 4 [] = some (.bool true, []) := by kernel_rfl
theorem e_9_4  : ∃ H', runA S 5000 0 4 [.int .i64 9, .int .i64 4] [] = some (.bool true, H') := runS_ok (hookSimN toldL) 5000 (r_9_4) trivial
theorem r_9_5 : run3 9 5 [] = some (.bool true, []) := by kernel_rfl
theorem e_9_5  : ∃ H', runA S 5000 0 4 [.int .i64 9, .int .i64 5] [] = some (.bool true, H') := runS_ok (hookSimN toldL) 5000 (r_9_5) trivial
theorem r_9_6 : run3 9 6 [] = some (.bool true, []) := by kernel_rfl
theorem e_9_6  : ∃ H', runA S 5000 0 4 [.int .i64 9, .int .i64 6] [] = some (.bool true, H') := runS_ok (hookSimN toldL) 5000 (r_9_6) trivial
theorem r_9_7 : run3 9 7 [] = some (.bool true, []) := by kernel_rfl
theorem e_9_7  : ∃ H', runA S 5000 0 4 [.int .i64 9, .int .i64 7] [] = some (.bool true, H') := runS_ok (hookSimN toldL) 5000 (r_9_7) trivial
theorem r_9_8 : run3 9 8 [] = some (.bool true, []) := by kernel_rfl
theorem e_9_8  : ∃ H', runA S 5000 0 4 [.int .i64 9, .int .i64 8] [] = some (.bool true, H') := runS_ok (hookSimN toldL) 5000 (r_9_8) trivial
theorem r_9_9 : run3 9 9 [] = some (.bool true, []) := by kernel_rfl
theorem e_9_9  : ∃ H', runA S 5000 0 4 [.int .i64 9, .int .i64 9] [] = some (.bool true, H') := runS_ok (hookSimN toldL) 5000 (r_9_9) trivial
theorem r_9_10 : run3 9 10 [] = some (.bool true, []) := by kernel_rfl
theorem e_9_10  : ∃ H', runA S 5000 0 4 [.int .i64 9, .int .i64 10] [] = some (.bool true, H') := runS_ok (hookSimN toldL) 5000 (r_9_10) trivial
theorem r_9_lo (b : Int) : run3 9 b [(1, 3, .into scNew), (3, 8, .val (.bool false))] = some (.bool true, [ne b 1, ne b 2, ne b 3, ne b 4, ne b 5, ne b 6, ne b 7, ne b 8, ne b 9, ne b 10, ge b false]) := by kernel_rfl
theorem e_9_lo (b : Int) (hb : b < 1) : ∃ H', runA S 5000 0 4 [.int .i64 9, .int .i64 b] [] = some (.bool true, H') := runS_ok (hookSimN toldL) 5000 (r_9_lo b) ⟨ne_of (by omega), ne_of (by omega), ne_of (by omega), ne_of (by omega), ne_of (by omega), ne_of (by omega), ne_of (by omega), ne_of (by omega), ne_of (by omega), ne_of (by omega), ge_of (by simp; omega), trivial⟩
theorem r_9_hi (b : Int) : run3 9 b [(1, 3, .into scNew), (3, 8, .val (.bool true)), (3, 11, .val (.bool false))] = some (.bool true, [ne b 1, ne b 2, ne b 3, ne b 4, ne b 5, ne b 6, ne b 7, ne b 8, ne b 9, ne b 10, ge b true, le b false]) := by kernel_rfl
theorem e_9_hi (b : Int) (hb : 10 < b) : ∃ H', runA S 5000 0 4 [.int .i64 9, .int .i64 b] [] = some (.bool true, H') := runS_ok (hookSimN toldL) 5000 (r_9_hi b) ⟨ne_of (by omega), ne_of (by omega), ne_of (by omega), ne_of (by omega), ne_of (by omega), ne_of (by omega), ne_of (by omega), ne_of (by omega), ne_of (by omega), ne_of (by omega), ge_of (by simp; omega), le_of (by simp; omega), trivial⟩
end Go.Proofs.YtomlcdalhihnaaaDoor.blameCodes
