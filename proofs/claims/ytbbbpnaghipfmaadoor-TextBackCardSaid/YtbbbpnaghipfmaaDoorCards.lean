/-
  DERIVED. GIVEN WITH THE SEED: THE CARDS: each row of YtbbbpnaghipfmaaDoorRows.lean that lists a variable, with what it lists TIED to the program's text (the seventh form; the later family's looks); each row that meets fmt, with fmt's text TOLD by the authors' own Lean function (tested against real Go, not proved from fmt's source: count such statements apart). THE CARD IS WHAT COUNTS. Prove the row's statement (the work); the ties are given (YtbbbpnaghipfmaaDoorTie.lean); close each card by the builder's one call (the guide's Derived/Test/ToyasCard.lean, 'card_holds'). Laid BY PROGRAM, IN A SANDBOX (cutbox-door.mjs). By AI agents, Wed Nov 11 2026. No macro, syntax, notation, axiom, sorry.
-/
import Derived.Test.YtbbbpnaghipfmaaDoorRows
import GoSem.ClaimSeven
namespace Go.Proofs.YtbbbpnaghipfmaaDoor
namespace Rows

/-- THE TIED CARD OF 'syncopelaw5.TextAsks'. -/
def textAsksCard : Claim7 := { stood := { row := textAsksRow, standIns := [], harness := (true, "5c39d1ce4013a0ffdc0bd879f2bc8e773cbfd6a8afef180a1ff02c03f7b3badd"), looks := true }, kinds := [], alts := [], laidByText := true, laidKinds := [.data, .data, .data, .data, .sentinel, .sentinel, .sentinel, .sentinel, .sentinel, .sentinel, .sentinel, .sentinel, .sentinel, .sentinel, .sentinel, .sentinel, .pinned], laidTests := true, laidLooks := .later }
def TextAsksCardSaid : Prop := Claim7.holds Tryd.pinned (.plain (OpenSpec.ofChange textAsksSpec)) textAsksCard

/-- THE TIED CARD OF 'syncopelaw5.TextBack'. -/
def textBackCard : Claim7 := { stood := { row := textBackRow, standIns := [], harness := (true, "5c39d1ce4013a0ffdc0bd879f2bc8e773cbfd6a8afef180a1ff02c03f7b3badd"), looks := true }, kinds := [], alts := [], laidByText := true, laidKinds := [.data, .data, .data, .data, .sentinel, .sentinel, .sentinel, .sentinel, .sentinel, .sentinel, .sentinel, .sentinel, .sentinel, .sentinel, .sentinel, .sentinel, .pinned], laidTests := true, laidLooks := .later }
def TextBackCardSaid : Prop := Claim7.holds Tryd.pinned (.plain (OpenSpec.ofChange textBackSpec)) textBackCard

/-- THE TIED CARD OF 'syncopelaw5.TextWhere'. -/
def textWhereCard : Claim7 := { stood := { row := textWhereRow, standIns := [], harness := (true, "5c39d1ce4013a0ffdc0bd879f2bc8e773cbfd6a8afef180a1ff02c03f7b3badd"), looks := true }, kinds := [], alts := [], laidByText := true, laidKinds := [.data, .data, .data, .data, .handle, .sentinel, .sentinel, .sentinel, .sentinel, .sentinel, .sentinel, .sentinel, .sentinel, .sentinel, .sentinel, .sentinel, .sentinel, .pinned], laidTests := true, laidLooks := .later }
def TextWhereCardSaid : Prop := Claim7.holds Tryd.pinned (.plain (OpenSpec.ofChange textWhereSpec)) textWhereCard

/-- THE TIED CARD OF 'syncopelaw5.TextLimits'. -/
def textLimitsCard : Claim7 := { stood := { row := textLimitsRow, standIns := [], harness := (true, "5c39d1ce4013a0ffdc0bd879f2bc8e773cbfd6a8afef180a1ff02c03f7b3badd"), looks := true }, kinds := [], alts := [], laidByText := true, laidKinds := [.data, .data, .data, .data, .handle, .sentinel, .sentinel, .sentinel, .sentinel, .sentinel, .sentinel, .sentinel, .sentinel, .sentinel, .sentinel, .sentinel, .sentinel, .pinned], laidTests := true, laidLooks := .later }
def TextLimitsCardSaid : Prop := Claim7.holds Tryd.pinned (.plain (OpenSpec.ofChange textLimitsSpec)) textLimitsCard

/-- THE SECOND FORM's CARD OF 'syncopelaw5.TextAsks'. -/
def textAsksUptoCard : Claim7 := { stood := { row := textAsksUptoRow, standIns := [], harness := (true, "5c39d1ce4013a0ffdc0bd879f2bc8e773cbfd6a8afef180a1ff02c03f7b3badd"), looks := true }, kinds := [], alts := [], laidByText := true, laidKinds := [.data, .data, .data, .data, .sentinel, .sentinel, .sentinel, .sentinel, .sentinel, .sentinel, .sentinel, .sentinel, .sentinel, .sentinel, .sentinel, .sentinel, .pinned], laidTests := true, laidLooks := .later }
def TextAsksUptoCardSaid : Prop := Claim7.holds Tryd.pinned (.plain (OpenSpec.upto textAsksSpec)) textAsksUptoCard

/-- THE SECOND FORM's CARD OF 'syncopelaw5.TextBack'. -/
def textBackUptoCard : Claim7 := { stood := { row := textBackUptoRow, standIns := [], harness := (true, "5c39d1ce4013a0ffdc0bd879f2bc8e773cbfd6a8afef180a1ff02c03f7b3badd"), looks := true }, kinds := [], alts := [], laidByText := true, laidKinds := [.data, .data, .data, .data, .sentinel, .sentinel, .sentinel, .sentinel, .sentinel, .sentinel, .sentinel, .sentinel, .sentinel, .sentinel, .sentinel, .sentinel, .pinned], laidTests := true, laidLooks := .later }
def TextBackUptoCardSaid : Prop := Claim7.holds Tryd.pinned (.plain (OpenSpec.upto textBackSpec)) textBackUptoCard

/-- THE SECOND FORM's CARD OF 'syncopelaw5.TextWhere'. -/
def textWhereUptoCard : Claim7 := { stood := { row := textWhereUptoRow, standIns := [], harness := (true, "5c39d1ce4013a0ffdc0bd879f2bc8e773cbfd6a8afef180a1ff02c03f7b3badd"), looks := true }, kinds := [], alts := [], laidByText := true, laidKinds := [.data, .data, .data, .data, .handle, .sentinel, .sentinel, .sentinel, .sentinel, .sentinel, .sentinel, .sentinel, .sentinel, .sentinel, .sentinel, .sentinel, .sentinel, .pinned], laidTests := true, laidLooks := .later }
def TextWhereUptoCardSaid : Prop := Claim7.holds Tryd.pinned (.plain (OpenSpec.upto textWhereSpec)) textWhereUptoCard

/-- THE SECOND FORM's CARD OF 'syncopelaw5.TextLimits'. -/
def textLimitsUptoCard : Claim7 := { stood := { row := textLimitsUptoRow, standIns := [], harness := (true, "5c39d1ce4013a0ffdc0bd879f2bc8e773cbfd6a8afef180a1ff02c03f7b3badd"), looks := true }, kinds := [], alts := [], laidByText := true, laidKinds := [.data, .data, .data, .data, .handle, .sentinel, .sentinel, .sentinel, .sentinel, .sentinel, .sentinel, .sentinel, .sentinel, .sentinel, .sentinel, .sentinel, .sentinel, .pinned], laidTests := true, laidLooks := .later }
def TextLimitsUptoCardSaid : Prop := Claim7.holds Tryd.pinned (.plain (OpenSpec.upto textLimitsSpec)) textLimitsUptoCard
end Rows
end Go.Proofs.YtbbbpnaghipfmaaDoor
