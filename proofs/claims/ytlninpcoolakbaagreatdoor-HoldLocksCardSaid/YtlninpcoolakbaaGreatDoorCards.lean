/-
  DERIVED. GIVEN WITH THE SEED: THE CARDS: each row of YtlninpcoolakbaaGreatDoorRows.lean that lists a variable, with what it lists TIED to the program's text (the seventh form; the later family's looks); each row that meets fmt, with fmt's text TOLD by the authors' own Lean function (tested against real Go, not proved from fmt's source: count such statements apart). THE CARD IS WHAT COUNTS. Prove the row's statement (the work); the ties are given (YtlninpcoolakbaaGreatDoorTie.lean); close each card by the builder's one call (the guide's Derived/Test/ToyasCard.lean, 'card_holds'). Laid BY PROGRAM, IN A SANDBOX (cutbox-door.mjs). By AI agents, Wed Nov 11 2026. No macro, syntax, notation, axiom, sorry.
-/
import Derived.Test.YtlninpcoolakbaaGreatDoorRows
import GoSem.ClaimSeven
namespace Go.Proofs.YtlninpcoolakbaaGreatDoor
namespace Rows

/-- THE TIED CARD OF 'syncopelaw24.HoldTexts'. -/
def holdTextsCard : Claim7 := { stood := { row := holdTextsRow, standIns := [], harness := (true, "baa9f84ddbc0e5da4b895dd30e652832ed100da7cf8b1ab7241933c919ae96c1"), looks := true }, kinds := [], alts := [], laidByText := true, laidKinds := [.data, .data, .data, .handle, .sentinel, .sentinel, .sentinel, .sentinel, .sentinel, .sentinel, .sentinel, .sentinel, .sentinel, .sentinel], laidTests := true, laidLooks := .later }
def HoldTextsCardSaid : Prop := Claim7.holds Tryz.pinned (.plain (OpenSpec.ofChange holdTextsSpec)) holdTextsCard

/-- THE TIED CARD OF 'syncopelaw24.HoldLocks'. -/
def holdLocksCard : Claim7 := { stood := { row := holdLocksRow, standIns := [], harness := (true, "baa9f84ddbc0e5da4b895dd30e652832ed100da7cf8b1ab7241933c919ae96c1"), looks := true }, kinds := [], alts := [], laidByText := true, laidKinds := [.data, .data, .data, .handle, .sentinel, .sentinel, .sentinel, .sentinel, .sentinel, .sentinel, .sentinel, .sentinel, .sentinel, .sentinel], laidTests := true, laidLooks := .later }
def HoldLocksCardSaid : Prop := Claim7.holds Tryz.pinned (.plain (OpenSpec.ofChange holdLocksSpec)) holdLocksCard

/-- THE SECOND FORM's CARD OF 'syncopelaw24.HoldTexts'. -/
def holdTextsUptoCard : Claim7 := { stood := { row := holdTextsUptoRow, standIns := [], harness := (true, "baa9f84ddbc0e5da4b895dd30e652832ed100da7cf8b1ab7241933c919ae96c1"), looks := true }, kinds := [], alts := [], laidByText := true, laidKinds := [.data, .data, .data, .handle, .sentinel, .sentinel, .sentinel, .sentinel, .sentinel, .sentinel, .sentinel, .sentinel, .sentinel, .sentinel], laidTests := true, laidLooks := .later }
def HoldTextsUptoCardSaid : Prop := Claim7.holds Tryz.pinned (.plain (OpenSpec.upto holdTextsSpec)) holdTextsUptoCard

/-- THE SECOND FORM's CARD OF 'syncopelaw24.HoldLocks'. -/
def holdLocksUptoCard : Claim7 := { stood := { row := holdLocksUptoRow, standIns := [], harness := (true, "baa9f84ddbc0e5da4b895dd30e652832ed100da7cf8b1ab7241933c919ae96c1"), looks := true }, kinds := [], alts := [], laidByText := true, laidKinds := [.data, .data, .data, .handle, .sentinel, .sentinel, .sentinel, .sentinel, .sentinel, .sentinel, .sentinel, .sentinel, .sentinel, .sentinel], laidTests := true, laidLooks := .later }
def HoldLocksUptoCardSaid : Prop := Claim7.holds Tryz.pinned (.plain (OpenSpec.upto holdLocksSpec)) holdLocksUptoCard
end Rows
end Go.Proofs.YtlninpcoolakbaaGreatDoor
