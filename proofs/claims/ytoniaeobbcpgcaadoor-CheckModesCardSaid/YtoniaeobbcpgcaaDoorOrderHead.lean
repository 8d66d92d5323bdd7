/- The law CheckOrder as an idealised run: what it stands on; its head. -/
import Derived.Test.YtoniaeobbcpgcaaDoorHook
namespace Go.Proofs.YtoniaeobbcpgcaaDoor.checkOrder
open Go.Am

/-- How each call ends: those that make memory and give it away. -/
def pol (f : FuncId) : Pol := if f == 9 || f == 23 || f == 38 || f == 11 then .fresh else .keep
def toldL : List (FuncId × AVal) := [(14, .bool true)]
theorem told : Told toldL := by
  intro x hx
  simp only [toldL, List.mem_singleton] at hx
  subst hx
  exact ⟨rfl, pol, 5000, runF_ok (hookSim pol []) 5000 (by kernel_rfl)⟩

noncomputable def S : AStat := St pol toldL
theorem sOk : StatOk S := stOk pol told
noncomputable def body : Code := Tryd.f3.body.getD .skip

/-- One of three. -/
def pk (n : Int) : Int := IntKind.wrap .i64 (Int.tmod (IntKind.wrap .u64 n) (IntKind.wrap .u64 3))
theorem pk3 (n : Int) : pk n = 0 ∨ pk n = 1 ∨ pk n = 2 := by
  have h0 : 0 ≤ IntKind.wrap .u64 n := by simp [IntKind.wrap, IntKind.signed, IntKind.bits]; omega
  have h1 := Int.tmod_nonneg 3 h0
  have h2 := Int.tmod_lt_of_pos (IntKind.wrap .u64 n) (b := 3) (by decide)
  have h3 : IntKind.wrap .u64 3 = 3 := by decide
  unfold pk
  rw [h3]
  have h4 : IntKind.wrap .i64 (Int.tmod (IntKind.wrap .u64 n) 3) = Int.tmod (IntKind.wrap .u64 n) 3 := by
    generalize Int.tmod (IntKind.wrap .u64 n) 3 = m at *
    have : m = 0 ∨ m = 1 ∨ m = 2 := by omega
    rcases this with rfl | rfl | rfl <;> decide
  rw [h4]
  omega

noncomputable def head (a b d : Int) : Option St3 := headF S (hookT toldL) 5000 2 Tryd.f3 body [.int .i64 a, .int .i64 b, .int .i64 d]
theorem look (a b d : Int) : (head a b d).map (fun s => s.reads [] [0]) = some ([], [some (some (.cells [.int .i64 (pk a), .int .i64 (pk b), .int .i64 (pk d)]))]) := by kernel_rfl
noncomputable def tail (a b d p q r : Int) : Option AVal := (head a b d).bind fun s => tailF S (hookT toldL) 5000 Tryd.f3 (s.put [] [(0, some (.cells [.int .i64 p, .int .i64 q, .int .i64 r]))])
end Go.Proofs.YtoniaeobbcpgcaaDoor.checkOrder
