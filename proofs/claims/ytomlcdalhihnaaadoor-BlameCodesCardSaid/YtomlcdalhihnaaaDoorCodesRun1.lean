/- The law BlameCodes as an idealised run: its runs, part 1. -/
import Derived.Test.YtomlcdalhihnaaaDoorCodesHead
namespace Go.Proofs.YtomlcdalhihnaaaDoor.blameCodes
open Go.Am
theorem r_4_1 : run3 4 1 [] = some (.bool true, []) := by kernel_rfl
theorem e_4_1  : ∃ H', runA S 5000 0 4 [.int .i64 4, .int .i64 1] [] = some (.bool true, H') := runS_ok (hookSimN toldL) 5000 (r_4_1) trivial
theorem r_4_2 : run3 4 2 [] = some (.bool true, []) := by kernel_rfl
theorem e_4_2  : ∃ H', runA S 5000 0 4 [.int .i64 4, .int .i64 2] [] = some (.bool true, H') := runS_ok (hookSimN toldL) 5000 (r_4_2) trivial
theorem r_4_3 : run3 4 3 [] = some (.bool true, []) := by kernel_rfl
theorem e_4_3  : ∃ H', runA S 5000 0 4 [.int .i64 4, .int .i64 3] [] = some (.bool true, H') := runS_ok (hookSimN toldL) 5000 (r_4_3) trivial
theorem r_4_4 : run3 4 4 [] = some (.bool true, []) := by kernel_rfl
theorem e_4_4  : ∃ H', runA S 5000 0 4 [.int .i64 4, .int .i64 4] [] = some (.bool true, H') := runS_ok (hookSimN toldL) 5000 (r_4_4) trivial
theorem r_4_5 : run3 4 5 [] = some (.bool true, []) := by kernel_rfl
theorem e_4_5  : ∃ H', runA S 5000 0 4 [.int .i64 4, .int .i64 5] [] = some (.bool true, H') := runS_ok (hookSimN toldL) 5000 (r_4_5) trivial
theorem r_4_6 : run3 4 6 [] = some (.bool true, []) := by kernel_rfl
theorem e_4_6  : ∃ H', runA S 5000 0 4 [.int .i64 4, .int .i64 6] [] = some (.bool true, H') := runS_ok (hookSimN toldL) 5000 (r_4_6) trivial
theorem r_4_7 : run3 4 7 [] = some (.bool true, []) := by kernel_rfl
theorem e_4_7  : ∃ H', runA S 5000 0 4 [.int .i64 4, .int .i64 7] [] = some (.bool true, H') := runS_ok (hookSimN toldL) 5000 (r_4_7) trivial
theorem r_4_8 : run3 4 8 [] = some (.bool true, []) := by kernel_rfl
theorem e_4_8  : ∃ H', runA S 5000 0 4 [.int .i64 4, .int .i64 8] [] = some (.bool true, H') := runS_ok (hookSimN toldL) 5000 (r_4_8) trivial
theorem r_4_9 : run3 4 9 [] = some (.bool true, []) := by kernel_rfl
theorem e_4_9  : ∃ H', runA S 5000 0 4 [.int .i64 4, .int .i64 9] [] = some (.bool true, H') := runS_ok (hookSimN toldL) 5000 (r_4_9) trivial
theorem r_4_10 : run3 4 10 [] = some (.bool true, []) := by kernel_rfl
theorem e_4_10  : ∃ H', runA S 5000 0 4 [.int .i64 4, .int .i64 10] [] = some (.bool true, H') := runS_ok (hookSimN toldL) 5000 (r_4_10) trivial
theorem r_4_lo (b : Int) : run3 4 b [(1, 3, .into scNew), (3, 8, .val (.bool false))] = some (.bool true, [ne b 1, ne b 2, ne b 3, ne b 4, ne b 5, ne b 6, ne b 7, ne b 8, ne b 9, ne b 10, ge b false]) := by kernel_rfl
theorem e_4_lo (b : Int) (hb : b < 1) : ∃ H', runA S 5000 0 4 [.int .i64 4, .int .i64 b] [] = some (.bool true, H') := runS_ok (hookSimN toldL) 5000 (r_4_lo b) ⟨ne_of (by omega), ne_of (by omega), ne_of (by omega), ne_of (by omega), ne_of (by omega), ne_of (by omega), ne_of (by omega), ne_of (by omega), ne_of (by omega), ne_of (by omega), ge_of (by simp; omega), trivial⟩
theorem r_4_hi (b : Int) : run3 4 b [(1, 3, .into scNew), (3, 8, .val (.bool true)), (3, 11, .val (.bool false))] = some (.bool true, [ne b 1, ne b 2, ne b 3, ne b 4, ne b 5, ne b 6, ne b 7, ne b 8, ne b 9, ne b 10, ge b true, le b false]) := by kernel_rfl
theorem e_4_hi (b : Int) (hb : 10 < b) : ∃ H', runA S 5000 0 4 [.int .i64 4, .int .i64 b] [] = some (.bool true, H') := runS_ok (hookSimN toldL) 5000 (r_4_hi b) ⟨ne_of (by omega), ne_of (by omega), ne_of (by omega), ne_of (by omega), ne_of (by omega), ne_of (by omega), ne_of (by omega), ne_of (by omega), ne_of (by omega), ne_of (by omega), ge_of (by simp; omega), le_of (by simp; omega), trivial⟩
theorem r_5_1 : run3 5 1 [] = some (.bool true, []) := by kernel_rfl
theorem e_5_1  : ∃ H', runA S 5000 0 4 [.int .i64 5, .int .i64 1] [] = some (.bool true, H') := runS_ok (hookSimN toldL) 5000 (r_5_1) trivial
theorem r_5_2 : run3 5 2 [] = some (.bool true, []) := by kernel_rfl
theorem e_5_2  : ∃ H', runA S 5000 0 4 [.int .i64 5, .int .i64 2] [] = some (.bool true, H') := runS_ok (hookSimN toldL) 5000 (r_5_2) trivial
theorem r_5_3 : run3 5 3 [] = some (.bool true, []) := by kernel_rfl
theorem e_5_3  : ∃ H', runA S 5000 0 4 [.int .i64 5, .int .i64 3] [] = some (.bool true, H') := runS_ok (hookSimN toldL) 5000 (r_5_3) trivial
theorem r_5_4 : run3 5 4 [] = some (.bool true, []) := by kernel_rfl
theorem e_5_4  : ∃ H', runA S 5000 0 4 [.int .i64 5, .int .i64 4] [] = some (.bool true, H') := runS_ok (hookSimN toldL) 5000 (r_5_4) trivial
theorem r_5_5 : run3 5 5 [] = some (.bool true, []) := by kernel_rfl
theorem e_5_5  : ∃ H', runA S 5000 0 4 [.int .i64 5, .int .i64 5] [] = some (.bool true, H') := runS_ok (hookSimN toldL) 5000 (r_5_5) trivial
theorem r_5_6 : run3 5 6 [] = some (.bool true, []) := by kernel_rfl
theorem e_5_6  : ∃ H', runA S 5000 0 4 [.int .i64 5, .int .i64 6] [] = some (.bool true, H') := runS_ok (hookSimN toldL) 5000 (r_5_6) trivial
theorem r_5_7 : run3 5 7 [] = some (.bool true, []) := by kernel_rfl
theorem e_5_7  : ∃ H', runA S 5000 0 4 [.int .i64 5, .int .i64 7] [] = some (.bool true, H') := runS_ok (hookSimN toldL) 5000 (r_5_7) trivial
theorem r_5_8 : run3 5 8 [] = some (.bool true, []) := by kernel_rfl
theorem e_5_8  : ∃ H', runA S 5000 0 4 [.int .i64 5, .int .i64 8] [] = some (.bool true, H') := runS_ok (hookSimN toldL) 5000 (r_5_8) trivial
theorem r_5_9 : run3 5 9 [] = some (.bool true, []) := by kernel_rfl
theorem e_5_9  : ∃ H', runA S 5000 0 4 [.int .i64 5, .int .i64 9] [] = some (.bool true, H') := runS_ok (hookSimN toldL) 5000 (r_5_9) trivial
theorem r_5_10 : run3 5 10 [] = some (.bool true, []) := by kernel_rfl
theorem e_5_10  : ∃ H', runA S 5000 0 4 [.int .i64 5, .int .i64 10] [] = some (.bool true, H') := runS_ok (hookSimN toldL) 5000 (r_5_10) trivial
theorem r_5_lo (b : Int) : run3 5 b [(1, 3, .into scNew), (3, 8, .val (.bool false))] = some (.bool true, [ne b 1, ne b 2, ne b 3, ne b 4, ne b 5, ne b 6, ne b 7, ne b 8, ne b 9, ne b 10, ge b false]) := by kernel_rfl
theorem e_5_lo (b : Int) (hb : b < 1) : ∃ H', runA S 5000 0 4 [.int .i64 5, .int .i64 b] [] = some (.bool true, H') := runS_ok (hookSimN toldL) 5000 (r_5_lo b) ⟨ne_of (by omega), ne_of (by omega), ne_of (by omega), ne_of (by omega), ne_of (by omega), ne_of (by omega), ne_of (by omega), ne_of (by omega), ne_of (by omega), ne_of (by omega), ge_of (by simp; omega), trivial⟩
theorem r_5_hi (b : Int) : run3 5 b [(1, 3, .into scNew), (3, 8, .val (.bool true)), (3, 11, .val (.bool false))] = some (.bool true, [ne b 1, ne b 2, ne b 3, ne b 4, ne b 5, ne b 6, ne b 7, ne b 8, ne b 9, ne b 10, ge b true, le b false]) := by kernel_rfl
theorem e_5_hi (b : Int) (hb : 10 < b) : ∃ H', runA S 5000 0 4 [.int .i64 5, .int .i64 b] [] = some (.bool true, H') := runS_ok (hookSimN toldL) 5000 (r_5_hi b) ⟨ne_of (by omega), ne_of (by omega), ne_of (by omega), ne_of (by omega), ne_of (by omega), ne_of (by omega), ne_of (by omega), ne_of (by omega), ne_of (by omega), ne_of (by omega), ge_of (by simp; omega), le_of (by simp; omega), trivial⟩
theorem r_6_1 : run3 6 1 [] = some (.bool true, []) := by kernel_rfl
theorem e_6_1  : ∃ H', runA S 5000 0 4 [.int .i64 6, .int .i64 1] [] = some (.bool true, H') := runS_ok (hookSimN toldL) 5000 (r_6_1) trivial
theorem r_6_2 : run3 6 2 [] = some (.bool true, []) := by kernel_rfl
theorem e_6_2  : ∃ H', runA S 5000 0 4 [.int .i64 6, .int .i64 2] [] = some (.bool true, H') := runS_ok (hookSimN toldL) 5000 (r_6_2) trivial
theorem r_6_3 : run3 6 3 [] = some (.bool true, []) := by kernel_rfl
theorem e_6_3  : ∃ H', runA S 5000 0 4 [.int .i64 6, .int .i64 3] [] = some (.bool true, H') := runS_ok (hookSimN toldL) 5000 (r_6_3) trivial
theorem r_6_4 : run3 6 4 [] = some (.bool true, []) := by kernel_rfl
theorem e_6_4  : ∃ H', runA S 5000 0 4 [.int .i64 6, .int .i64 4] [] = some (.bool true, H') := runS_ok (hookSimN toldL) 5000 (r_6_4) trivial
theorem r_6_5 : run3 6 5 [] = some (.bool true, []) := by kernel_rfl
theorem e_6_5  : ∃ H', runA S 5000 0 4 [.int .i64 6, .int .i64 5] [] = some (.bool true, H') := runS_ok (hookSimN toldL) 5000 (r_6_5) trivial
theorem r_6_6 : run3 6 6 [] = some (.bool true, []) := by kernel_rfl
theorem e_6_6  : ∃ H', runA S 5000 0 4 [.int .i64 6, .int .i64 6] [] = some (.bool true, H') := runS_ok (hookSimN toldL) 5000 (r_6_6) trivial
theorem r_6_7 : run3 6 7 [] = some (.bool true, []) := by kernel_rfl
theorem e_6_7  : ∃ H', runA S 5000 0 4 [.int .i64 6, .int .i64 7] [] = some (.bool true, H') := runS_ok (hookSimN toldL) 5000 (r_6_7) trivial
theorem r_6_8 : run3 6 8 [] = some (.bool true, []) := by kernel_rfl
theorem e_6_8  : ∃ H', runA S 5000 0 4 [.int .i64 6, .int .i64 8] [] = some (.bool true, H') := runS_ok (hookSimN toldL) 5000 (r_6_8) trivial
theorem r_6_9 : run3 6 9 [] = some (.bool true, []) := by kernel_rfl
theorem e_6_9  : ∃ H', runA S 5000 0 4 [.int .i64 6, .int .i64 9] [] = some (.bool true, H') := runS_ok (hookSimN toldL) 5000 (r_6_9) trivial
theorem r_6_10 : run3 6 10 [] = some (.bool true, []) := by kernel_rfl
theorem e_6_10  : ∃ H', runA S 5000 0 4 [.int .i64 6, .int .i64 10] [] = some (.bool true, H') := runS_ok (hookSimN toldL) 5000 (r_6_10) trivial
theorem r_6_lo (b : Int) : run3 6 b [(1, 3, .into scNew), (3, 8, .val (.bool false))] = some (.bool true, [ne b 1, ne b 2, ne b 3, ne b 4, ne b 5, ne b 6, ne b 7, ne b 8, ne b 9, ne b 10, ge b false]) := by kernel_rfl
theorem e_6_lo (b : Int) (hb : b < 1) : ∃ H', runA S 5000 0 4 [.int .i64 6, .int .i64 b] [] = some (.bool true, H') := runS_ok (hookSimN toldL) 5000 (r_6_lo b) ⟨ne_of (by omega), ne_of (by omega), ne_of (by omega), ne_of (by omega), ne_of (by omega), ne_of (by omega), ne_of (by omega), ne_of (by omega), ne_of (by omega), ne_of (by omega), ge_of (by simp; omega), trivial⟩
theorem r_6_hi (b : Int) : run3 6 b [(1, 3, .into scNew), (3, 8, .val (.bool true)), (3, 11, .val (.bool false))] = some (.bool true, [ne b 1, ne b 2, ne b 3, ne b 4, ne b 5, ne b 6, ne b 7, ne b 8, ne b 9, ne b 10, ge b true, le b false]) := by kernel_rfl
theorem e_6_hi (b : Int) (hb : 10 < b) : ∃ H', runA S 5000 0 4 [.int .i64 6, .int .i64 b] [] = some (.bool true, H') := runS_ok (hookSimN toldL) 5000 (r_6_hi b) ⟨ne_of (by omega), ne_of (by omega), ne_of (by omega), ne_of (by omega), ne_of (by omega), ne_of (by omega), ne_of (by omega), ne_of (by omega), ne_of (by omega), ne_of (by omega), ge_of (by simp; omega), le_of (by simp; omega), trivial⟩
end Go.Proofs.YtomlcdalhihnaaaDoor.blameCodes
