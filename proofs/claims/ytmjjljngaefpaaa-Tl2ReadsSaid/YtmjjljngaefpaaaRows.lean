/-
  No cell of these rows narrows 'for every input' (looked for: loops, veiled, ifaces, maps, wideKeys, modest, calm, conditions, laid).
  DERIVED. THE GIVEN ROWS OF THIS SEAT. 4 by the template 'for every input the law returns true; each argument reads behind the call as it read before'; 0 by the template 'total and deterministic' (their statements: YtmjjljngaefpaaaTotals.lean).
  GIVEN WITH THE SEED: the statements are not yours to turn. If you find one false, say at which input.
  Laid BY PROGRAM, IN A SANDBOX (cutbox-rows.mjs): the forced cells as the released guide's own fill.sh prints them over the translation cd2413c40a1ade66… (all of the seat's roots in one cut). By AI agents, Wed Nov 11 2026. No macro, syntax, notation, axiom, sorry.
-/
import Derived.Test.YtmjjljngaefpaaaChecked
import GoSem.Claim
import GoSem.ClaimJoined
import GoSem.ClaimMapViews
import Derived.JoinedTies
import Derived.KernelRfl
namespace Go.Proofs.Ytmjjljngaefpaaa
/- THE CELL 'sum', in the pinned program and in every row, IS THE sha256 OF THE DUMP (.gsa) THAT YtmjjljngaefpaaaProg.lean LOADS. Nothing in Lean hashes anything: it is a label: what it is worth is what the hold of that sum in a sandbox is worth. -/
noncomputable def Try.pinned : Pinned := { name := "ytmjjljngaefpaaa", sum := "cd2413c40a1ade66af68e90283986b4e1561efae988b3b724d4e740e0129dec0", checked := Try.checked }
namespace Rows
def none {H : Type} : Left H := { results := [], args := [] }

/-- 'syncopelaw15.Tl2Reads': WHATEVER THE INPUT: true; the input reads as it did. -/
def tl2ReadsSpec : ChangeSpec := { name := "tl2Reads", fn := fun _ => fun
  | [d1, d2, d3] => { results := [.lit (.bool true)], args := [d1, d2, d3] }
  | _ => none }
def tl2ReadsRow : OpenClaim := { program := "ytmjjljngaefpaaa", sum := "cd2413c40a1ade66af68e90283986b4e1561efae988b3b724d4e740e0129dec0", func := "syncope/syncopelaw15.Tl2Reads", spec := "tl2Reads", apart := false }
def Tl2ReadsSaid : Prop := tl2ReadsRow.holds Try.pinned (OpenSpec.ofChange tl2ReadsSpec)

/-- ITS FALSE NEIGHBOUR: 'it returns false'. Refute it at one input. -/
def tl2ReadsWrong : ChangeSpec := { name := "tl2Reads", fn := fun _ => fun
  | [d1, d2, d3] => { results := [.lit (.bool false)], args := [d1, d2, d3] }
  | _ => none }
def Tl2ReadsWrongFalsely : Prop := tl2ReadsRow.holds Try.pinned (OpenSpec.ofChange tl2ReadsWrong)

/-- 'syncopelaw15.Tl2Undo': WHATEVER THE INPUT: true; the input reads as it did. -/
def tl2UndoSpec : ChangeSpec := { name := "tl2Undo", fn := fun _ => fun
  | [d1, d2, d3, d4] => { results := [.lit (.bool true)], args := [d1, d2, d3, d4] }
  | _ => none }
def tl2UndoRow : OpenClaim := { program := "ytmjjljngaefpaaa", sum := "cd2413c40a1ade66af68e90283986b4e1561efae988b3b724d4e740e0129dec0", func := "syncope/syncopelaw15.Tl2Undo", spec := "tl2Undo", apart := false }
def Tl2UndoSaid : Prop := tl2UndoRow.holds Try.pinned (OpenSpec.ofChange tl2UndoSpec)

/-- ITS FALSE NEIGHBOUR: 'it returns false'. Refute it at one input. -/
def tl2UndoWrong : ChangeSpec := { name := "tl2Undo", fn := fun _ => fun
  | [d1, d2, d3, d4] => { results := [.lit (.bool false)], args := [d1, d2, d3, d4] }
  | _ => none }
def Tl2UndoWrongFalsely : Prop := tl2UndoRow.holds Try.pinned (OpenSpec.ofChange tl2UndoWrong)

/-- 'syncopelaw15.Tl2Watch': WHATEVER THE INPUT: true; the input reads as it did. -/
def tl2WatchSpec : ChangeSpec := { name := "tl2Watch", fn := fun _ => fun
  | [d1, d2, d3] => { results := [.lit (.bool true)], args := [d1, d2, d3] }
  | _ => none }
def tl2WatchRow : OpenClaim := { program := "ytmjjljngaefpaaa", sum := "cd2413c40a1ade66af68e90283986b4e1561efae988b3b724d4e740e0129dec0", func := "syncope/syncopelaw15.Tl2Watch", spec := "tl2Watch", apart := false }
def Tl2WatchSaid : Prop := tl2WatchRow.holds Try.pinned (OpenSpec.ofChange tl2WatchSpec)

/-- ITS FALSE NEIGHBOUR: 'it returns false'. Refute it at one input. -/
def tl2WatchWrong : ChangeSpec := { name := "tl2Watch", fn := fun _ => fun
  | [d1, d2, d3] => { results := [.lit (.bool false)], args := [d1, d2, d3] }
  | _ => none }
def Tl2WatchWrongFalsely : Prop := tl2WatchRow.holds Try.pinned (OpenSpec.ofChange tl2WatchWrong)

/-- 'syncopelaw15.Tl2Alone': WHATEVER THE INPUT: true; the input reads as it did. -/
def tl2AloneSpec : ChangeSpec := { name := "tl2Alone", fn := fun _ => fun
  | [d1, d2] => { results := [.lit (.bool true)], args := [d1, d2] }
  | _ => none }
def tl2AloneRow : OpenClaim := { program := "ytmjjljngaefpaaa", sum := "cd2413c40a1ade66af68e90283986b4e1561efae988b3b724d4e740e0129dec0", func := "syncope/syncopelaw15.Tl2Alone", spec := "tl2Alone", apart := false }
def Tl2AloneSaid : Prop := tl2AloneRow.holds Try.pinned (OpenSpec.ofChange tl2AloneSpec)

/-- ITS FALSE NEIGHBOUR: 'it returns false'. Refute it at one input. -/
def tl2AloneWrong : ChangeSpec := { name := "tl2Alone", fn := fun _ => fun
  | [d1, d2] => { results := [.lit (.bool false)], args := [d1, d2] }
  | _ => none }
def Tl2AloneWrongFalsely : Prop := tl2AloneRow.holds Try.pinned (OpenSpec.ofChange tl2AloneWrong)

/- THE SECOND FORM. 'bulk': how many values and letters a reading holds, each counted each time it is reached (what is shared counts as often as it is met; a slice's spare places count too). A statement '..UptoSaid' is the law's where the arguments, and the package variables that the reading takes, are together of bulk at most 1048576: NARROWER than '..Said'. Prove '..Said' where nothing that the law and all that it calls make is longer than what came in: it says more and counts as full. Else prove '..UptoSaid'. A law counts once. -/
mutual
def uptoBulk {H : Type} : DataW H → Nat
  | .lit (.string bytes) => bytes.length + 1
  | .lit _ => 1
  | .nil => 1
  | .ptr d => uptoBulk d + 1
  | .slice elems spare => uptoBulkAll elems + uptoBulkAll spare + 1
  | .agg parts => uptoBulkAll parts + 1
  | .iface _ d => uptoBulk d + 1
  | .map entries => uptoBulkEntries entries + 1
  | .held _ => 1
def uptoBulkAll {H : Type} : List (DataW H) → Nat
  | [] => 0
  | d :: r => uptoBulk d + uptoBulkAll r
def uptoBulkEntries {H : Type} : List (Lit × DataW H) → Nat
  | [] => 0
  | x :: r => uptoBulkEntry x + uptoBulkEntries r
def uptoBulkEntry {H : Type} : Lit × DataW H → Nat
  | (.string bytes, d) => bytes.length + uptoBulk d + 1
  | (_, d) => uptoBulk d + 1
 end
def uptoSmall : (H : Type) → List (DataW H) → Bool := fun _ ds => decide (uptoBulkAll ds ≤ 1048576)
def OpenSpec.upto (s : _root_.Go.ChangeSpec) : _root_.Go.OpenSpec := { _root_.Go.OpenSpec.ofChange s with cond := some uptoSmall }

/-- 'syncopelaw15.Tl2Reads', WHERE WHAT IT READS IS OF BULK AT MOST 1048576: true; the input reads as it did. -/
def tl2ReadsUptoRow : OpenClaim := { program := "ytmjjljngaefpaaa", sum := "cd2413c40a1ade66af68e90283986b4e1561efae988b3b724d4e740e0129dec0", func := "syncope/syncopelaw15.Tl2Reads", spec := "tl2Reads", apart := false, narrowed := true }
def Tl2ReadsUptoSaid : Prop := tl2ReadsUptoRow.holds Try.pinned (OpenSpec.upto tl2ReadsSpec)

/-- 'syncopelaw15.Tl2Undo', WHERE WHAT IT READS IS OF BULK AT MOST 1048576: true; the input reads as it did. -/
def tl2UndoUptoRow : OpenClaim := { program := "ytmjjljngaefpaaa", sum := "cd2413c40a1ade66af68e90283986b4e1561efae988b3b724d4e740e0129dec0", func := "syncope/syncopelaw15.Tl2Undo", spec := "tl2Undo", apart := false, narrowed := true }
def Tl2UndoUptoSaid : Prop := tl2UndoUptoRow.holds Try.pinned (OpenSpec.upto tl2UndoSpec)

/-- 'syncopelaw15.Tl2Watch', WHERE WHAT IT READS IS OF BULK AT MOST 1048576: true; the input reads as it did. -/
def tl2WatchUptoRow : OpenClaim := { program := "ytmjjljngaefpaaa", sum := "cd2413c40a1ade66af68e90283986b4e1561efae988b3b724d4e740e0129dec0", func := "syncope/syncopelaw15.Tl2Watch", spec := "tl2Watch", apart := false, narrowed := true }
def Tl2WatchUptoSaid : Prop := tl2WatchUptoRow.holds Try.pinned (OpenSpec.upto tl2WatchSpec)

/-- 'syncopelaw15.Tl2Alone', WHERE WHAT IT READS IS OF BULK AT MOST 1048576: true; the input reads as it did. -/
def tl2AloneUptoRow : OpenClaim := { program := "ytmjjljngaefpaaa", sum := "cd2413c40a1ade66af68e90283986b4e1561efae988b3b724d4e740e0129dec0", func := "syncope/syncopelaw15.Tl2Alone", spec := "tl2Alone", apart := false, narrowed := true }
def Tl2AloneUptoSaid : Prop := tl2AloneUptoRow.holds Try.pinned (OpenSpec.upto tl2AloneSpec)

end Rows
end Go.Proofs.Ytmjjljngaefpaaa
