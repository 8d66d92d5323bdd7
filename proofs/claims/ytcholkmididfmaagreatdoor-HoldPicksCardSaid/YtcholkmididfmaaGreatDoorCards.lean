/-
  DERIVED. GIVEN WITH THE SEED: THE CARDS: each row of YtcholkmididfmaaGreatDoorRows.lean that lists a variable, with what it lists TIED to the program's text (the seventh form; the later family's looks); each row that meets fmt, with fmt's text TOLD by the authors' own Lean function (tested against real Go, not proved from fmt's source: count such statements apart). THE CARD IS WHAT COUNTS. Prove the row's statement (the work); the ties are given (YtcholkmididfmaaGreatDoorTie.lean); close each card by the builder's one call (the guide's Derived/Test/ToyasCard.lean, 'card_holds'). Laid BY PROGRAM, IN A SANDBOX (cutbox-door.mjs). By AI agents, Wed Nov 11 2026. No macro, syntax, notation, axiom, sorry.
-/
import Derived.Test.YtcholkmididfmaaGreatDoorRows
import GoSem.ClaimSeven
namespace Go.Proofs.YtcholkmididfmaaGreatDoor
namespace Rows

/-- THE TIED CARD OF 'syncopelaw24.HoldAll'. -/
def holdAllCard : Claim7 := { stood := { row := holdAllRow, standIns := [], harness := (true, "3de4d15be199ea30c3d5b940a73afded6f8039573092f43069b2aa3fc994853d"), looks := true }, kinds := [], alts := [], laidByText := true, laidKinds := [.data, .data, .data, .handle, .sentinel, .sentinel, .sentinel, .sentinel, .sentinel, .sentinel, .sentinel, .sentinel, .sentinel, .sentinel], laidTests := true, laidLooks := .later }
def HoldAllCardSaid : Prop := Claim7.holds Tryz.pinned (.plain (OpenSpec.ofChange holdAllSpec)) holdAllCard

/-- THE TIED CARD OF 'syncopelaw24.HoldTexts'. -/
def holdTextsCard : Claim7 := { stood := { row := holdTextsRow, standIns := [], harness := (true, "3de4d15be199ea30c3d5b940a73afded6f8039573092f43069b2aa3fc994853d"), looks := true }, kinds := [], alts := [], laidByText := true, laidKinds := [.data, .data, .data, .handle, .sentinel, .sentinel, .sentinel, .sentinel, .sentinel, .sentinel, .sentinel, .sentinel, .sentinel, .sentinel], laidTests := true, laidLooks := .later }
def HoldTextsCardSaid : Prop := Claim7.holds Tryz.pinned (.plain (OpenSpec.ofChange holdTextsSpec)) holdTextsCard

/-- THE TIED CARD OF 'syncopelaw24.HoldEnds'. -/
def holdEndsCard : Claim7 := { stood := { row := holdEndsRow, standIns := [], harness := (true, "3de4d15be199ea30c3d5b940a73afded6f8039573092f43069b2aa3fc994853d"), looks := true }, kinds := [], alts := [], laidByText := true, laidKinds := [.data, .data, .data, .handle, .sentinel, .sentinel, .sentinel, .sentinel, .sentinel, .sentinel, .sentinel, .sentinel, .sentinel, .sentinel], laidTests := true, laidLooks := .later }
def HoldEndsCardSaid : Prop := Claim7.holds Tryz.pinned (.plain (OpenSpec.ofChange holdEndsSpec)) holdEndsCard

/-- THE TIED CARD OF 'syncopelaw24.HoldCounts'. -/
def holdCountsCard : Claim7 := { stood := { row := holdCountsRow, standIns := [], harness := (true, "3de4d15be199ea30c3d5b940a73afded6f8039573092f43069b2aa3fc994853d"), looks := true }, kinds := [], alts := [], laidByText := true, laidKinds := [.data, .data, .data, .handle, .sentinel, .sentinel, .sentinel, .sentinel, .sentinel, .sentinel, .sentinel, .sentinel, .sentinel, .sentinel], laidTests := true, laidLooks := .later }
def HoldCountsCardSaid : Prop := Claim7.holds Tryz.pinned (.plain (OpenSpec.ofChange holdCountsSpec)) holdCountsCard

/-- THE TIED CARD OF 'syncopelaw24.HoldLocks'. -/
def holdLocksCard : Claim7 := { stood := { row := holdLocksRow, standIns := [], harness := (true, "3de4d15be199ea30c3d5b940a73afded6f8039573092f43069b2aa3fc994853d"), looks := true }, kinds := [], alts := [], laidByText := true, laidKinds := [.data, .data, .data, .handle, .sentinel, .sentinel, .sentinel, .sentinel, .sentinel, .sentinel, .sentinel, .sentinel, .sentinel, .sentinel], laidTests := true, laidLooks := .later }
def HoldLocksCardSaid : Prop := Claim7.holds Tryz.pinned (.plain (OpenSpec.ofChange holdLocksSpec)) holdLocksCard

/-- THE TIED CARD OF 'syncopelaw24.HoldPicks'. -/
def holdPicksCard : Claim7 := { stood := { row := holdPicksRow, standIns := [], harness := (true, "3de4d15be199ea30c3d5b940a73afded6f8039573092f43069b2aa3fc994853d"), looks := true }, kinds := [], alts := [], laidByText := true, laidKinds := [.data, .data, .data, .handle, .sentinel, .sentinel, .sentinel, .sentinel, .sentinel, .sentinel, .sentinel, .sentinel, .sentinel, .sentinel], laidTests := true, laidLooks := .later }
def HoldPicksCardSaid : Prop := Claim7.holds Tryz.pinned (.plain (OpenSpec.ofChange holdPicksSpec)) holdPicksCard

/-- THE SECOND FORM's CARD OF 'syncopelaw24.HoldAll'. -/
def holdAllUptoCard : Claim7 := { stood := { row := holdAllUptoRow, standIns := [], harness := (true, "3de4d15be199ea30c3d5b940a73afded6f8039573092f43069b2aa3fc994853d"), looks := true }, kinds := [], alts := [], laidByText := true, laidKinds := [.data, .data, .data, .handle, .sentinel, .sentinel, .sentinel, .sentinel, .sentinel, .sentinel, .sentinel, .sentinel, .sentinel, .sentinel], laidTests := true, laidLooks := .later }
def HoldAllUptoCardSaid : Prop := Claim7.holds Tryz.pinned (.plain (OpenSpec.upto holdAllSpec)) holdAllUptoCard

/-- THE SECOND FORM's CARD OF 'syncopelaw24.HoldTexts'. -/
def holdTextsUptoCard : Claim7 := { stood := { row := holdTextsUptoRow, standIns := [], harness := (true, "3de4d15be199ea30c3d5b940a73afded6f8039573092f43069b2aa3fc994853d"), looks := true }, kinds := [], alts := [], laidByText := true, laidKinds := [.data, .data, .data, .handle, .sentinel, .sentinel, .sentinel, .sentinel, .sentinel, .sentinel, .sentinel, .sentinel, .sentinel, .sentinel], laidTests := true, laidLooks := .later }
def HoldTextsUptoCardSaid : Prop := Claim7.holds Tryz.pinned (.plain (OpenSpec.upto holdTextsSpec)) holdTextsUptoCard

/-- THE SECOND FORM's CARD OF 'syncopelaw24.HoldEnds'. -/
def holdEndsUptoCard : Claim7 := { stood := { row := holdEndsUptoRow, standIns := [], harness := (true, "3de4d15be199ea30c3d5b940a73afded6f8039573092f43069b2aa3fc994853d"), looks := true }, kinds := [], alts := [], laidByText := true, laidKinds := [.data, .data, .data, .handle, .sentinel, .sentinel, .sentinel, .sentinel, .sentinel, .sentinel, .sentinel, .sentinel, .sentinel, .sentinel], laidTests := true, laidLooks := .later }
def HoldEndsUptoCardSaid : Prop := Claim7.holds Tryz.pinned (.plain (OpenSpec.upto holdEndsSpec)) holdEndsUptoCard

/-- THE SECOND FORM's CARD OF 'syncopelaw24.HoldCounts'. -/
def holdCountsUptoCard : Claim7 := { stood := { row := holdCountsUptoRow, standIns := [], harness := (true, "3de4d15be199ea30c3d5b940a73afded6f8039573092f43069b2aa3fc994853d"), looks := true }, kinds := [], alts := [], laidByText := true, laidKinds := [.data, .data, .data, .handle, .sentinel, .sentinel, .sentinel, .sentinel, .sentinel, .sentinel, .sentinel, .sentinel, .sentinel, .sentinel], laidTests := true, laidLooks := .later }
def HoldCountsUptoCardSaid : Prop := Claim7.holds Tryz.pinned (.plain (OpenSpec.upto holdCountsSpec)) holdCountsUptoCard

/-- THE SECOND FORM's CARD OF 'syncopelaw24.HoldLocks'. -/
def holdLocksUptoCard : Claim7 := { stood := { row := holdLocksUptoRow, standIns := [], harness := (true, "3de4d15be199ea30c3d5b940a73afded6f8039573092f43069b2aa3fc994853d"), looks := true }, kinds := [], alts := [], laidByText := true, laidKinds := [.data, .data, .data, .handle, .sentinel, .sentinel, .sentinel, .sentinel, .sentinel, .sentinel, .sentinel, .sentinel, .sentinel, .sentinel], laidTests := true, laidLooks := .later }
def HoldLocksUptoCardSaid : Prop := Claim7.holds Tryz.pinned (.plain (OpenSpec.upto holdLocksSpec)) holdLocksUptoCard

/-- THE SECOND FORM's CARD OF 'syncopelaw24.HoldPicks'. -/
def holdPicksUptoCard : Claim7 := { stood := { row := holdPicksUptoRow, standIns := [], harness := (true, "3de4d15be199ea30c3d5b940a73afded6f8039573092f43069b2aa3fc994853d"), looks := true }, kinds := [], alts := [], laidByText := true, laidKinds := [.data, .data, .data, .handle, .sentinel, .sentinel, .sentinel, .sentinel, .sentinel, .sentinel, .sentinel, .sentinel, .sentinel, .sentinel], laidTests := true, laidLooks := .later }
def HoldPicksUptoCardSaid : Prop := Claim7.holds Tryz.pinned (.plain (OpenSpec.upto holdPicksSpec)) holdPicksUptoCard
end Rows
end Go.Proofs.YtcholkmididfmaaGreatDoor
