/- The law CheckModes as an idealised run: what it stands on; its head. -/
import Derived.Test.YtoniaeobbcpgcaaDoorOrderHead
import Derived.Test.YtoniaeobbcpgcaaDoorAmCut2
namespace Go.Proofs.YtoniaeobbcpgcaaDoor.checkModes
open Go.Am
open checkOrder (pol toldL told S sOk pk pk3)
noncomputable def body : Code := Tryd.f6.body.getD .skip

/-- One of six. -/
def pk6 (n : Int) : Int := IntKind.wrap .i64 (Int.tmod (IntKind.wrap .u64 n) (IntKind.wrap .u64 6))
theorem pk6_is (n : Int) : pk6 n = 0 ∨ pk6 n = 1 ∨ pk6 n = 2 ∨ pk6 n = 3 ∨ pk6 n = 4 ∨ pk6 n = 5 := by
  have h0 : 0 ≤ IntKind.wrap .u64 n := by simp [IntKind.wrap, IntKind.signed, IntKind.bits]; omega
  have h1 := Int.tmod_nonneg 6 h0
  have h2 := Int.tmod_lt_of_pos (IntKind.wrap .u64 n) (b := 6) (by decide)
  have h3 : IntKind.wrap .u64 6 = 6 := by decide
  unfold pk6
  rw [h3]
  have h4 : IntKind.wrap .i64 (Int.tmod (IntKind.wrap .u64 n) 6) = Int.tmod (IntKind.wrap .u64 n) 6 := by
    generalize Int.tmod (IntKind.wrap .u64 n) 6 = m at *
    have : m = 0 ∨ m = 1 ∨ m = 2 ∨ m = 3 ∨ m = 4 ∨ m = 5 := by omega
    rcases this with rfl | rfl | rfl | rfl | rfl | rfl <;> decide
  rw [h4]
  omega

noncomputable def head (w l : Int) : Option St4 := headF2 S (hookT toldL) 5000 3 3 Tryd.f6 body [.int .i64 w, .int .i64 l]
theorem look (w l : Int) : (head w l).map (fun t => t.s.reads [5, 24] []) = some ([some (.int .i64 (pk l)), some (.int .i64 (pk6 w))], []) := by kernel_rfl
noncomputable def tail (w l p q : Int) : Option AVal := (head w l).bind fun t => tailF2 S (hookT toldL) 5000 Tryd.f6 { t with s := t.s.put [(5, .int .i64 p), (24, .int .i64 q)] [] }
end Go.Proofs.YtoniaeobbcpgcaaDoor.checkModes
