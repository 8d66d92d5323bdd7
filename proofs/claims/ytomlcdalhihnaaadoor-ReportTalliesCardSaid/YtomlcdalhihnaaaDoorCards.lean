/-
  DERIVED. GIVEN WITH THE SEED: THE CARDS: each row of YtomlcdalhihnaaaDoorRows.lean that lists a variable, with what it lists TIED to the program's text (the seventh form; the later family's looks); each row that meets fmt, with fmt's text TOLD by the authors' own Lean function (tested against real Go, not proved from fmt's source: count such statements apart). THE CARD IS WHAT COUNTS. Prove the row's statement (the work); the ties are given (YtomlcdalhihnaaaDoorTie.lean); close each card by the builder's one call (the guide's Derived/Test/ToyasCard.lean, 'card_holds'). Laid BY PROGRAM, IN A SANDBOX (cutbox-door.mjs). By AI agents, Wed Nov 11 2026. No macro, syntax, notation, axiom, sorry.
-/
import Derived.Test.YtomlcdalhihnaaaDoorRows
import GoSem.ClaimSeven
namespace Go.Proofs.YtomlcdalhihnaaaDoor
namespace Rows

/-- THE TIED CARD OF 'syncopelaw29.ReportTallies'. -/
def reportTalliesCard : Claim7 := { stood := { row := reportTalliesRow, standIns := [], harness := (true, "ccd9405562e065c1c7566109c37d9194f8d518c7e132db74e1b20ea556803225"), looks := true }, kinds := [], alts := [], laidByText := true, laidKinds := [.data, .data, .data], laidTests := true, laidLooks := .later }
def ReportTalliesCardSaid : Prop := Claim7.holds Tryd.pinned (.plain (OpenSpec.ofChange reportTalliesSpec)) reportTalliesCard

/-- THE TIED CARD OF 'syncopelaw1.BlameCodes'. -/
def blameCodesCard : Claim7 := { stood := { row := blameCodesRow, standIns := [], harness := (true, "ccd9405562e065c1c7566109c37d9194f8d518c7e132db74e1b20ea556803225"), looks := true }, kinds := [], alts := [], laidByText := true, laidKinds := [.sentinel, .sentinel, .sentinel, .sentinel, .sentinel, .sentinel, .sentinel, .sentinel, .sentinel, .sentinel], laidTests := true, laidLooks := .later }
def BlameCodesCardSaid : Prop := Claim7.holds Tryd.pinned (.plain (OpenSpec.ofChange blameCodesSpec)) blameCodesCard

/-- THE TIED CARD OF 'syncopelaw1.BlameText'. -/
def blameTextCard : Claim7 := { stood := { row := blameTextRow, standIns := [], harness := (true, "ccd9405562e065c1c7566109c37d9194f8d518c7e132db74e1b20ea556803225"), looks := true }, kinds := [], alts := [], laidByText := true, laidKinds := [.data, .data, .data, .handle, .sentinel, .sentinel, .sentinel, .sentinel, .sentinel, .sentinel, .sentinel, .sentinel, .sentinel, .sentinel], laidTests := true, laidLooks := .later }
def BlameTextCardSaid : Prop := Claim7.holds Tryd.pinned (.plain (OpenSpec.ofChange blameTextSpec)) blameTextCard

/-- THE TIED CARD OF 'syncopelaw1.BlameInner'. -/
def blameInnerCard : Claim7 := { stood := { row := blameInnerRow, standIns := [], harness := (true, "ccd9405562e065c1c7566109c37d9194f8d518c7e132db74e1b20ea556803225"), looks := true }, kinds := [], alts := [], laidByText := true, laidKinds := [.handle, .sentinel, .sentinel, .sentinel, .sentinel, .sentinel, .sentinel, .sentinel, .sentinel, .sentinel, .sentinel], laidTests := true, laidLooks := .later }
def BlameInnerCardSaid : Prop := Claim7.holds Tryd.pinned (.plain (OpenSpec.ofChange blameInnerSpec)) blameInnerCard

/-- THE TIED CARD OF 'syncopelaw1.BlameChain'. -/
def blameChainCard : Claim7 := { stood := { row := blameChainRow, standIns := [], harness := (true, "ccd9405562e065c1c7566109c37d9194f8d518c7e132db74e1b20ea556803225"), looks := true }, kinds := [], alts := [], laidByText := true, laidKinds := [.handle, .sentinel, .sentinel, .sentinel, .sentinel, .sentinel, .sentinel, .sentinel, .sentinel, .sentinel, .sentinel], laidTests := true, laidLooks := .later }
def BlameChainCardSaid : Prop := Claim7.holds Tryd.pinned (.plain (OpenSpec.ofChange blameChainSpec)) blameChainCard

/-- THE TIED CARD OF 'syncopelaw1.BlameNone'. -/
def blameNoneCard : Claim7 := { stood := { row := blameNoneRow, standIns := [], harness := (true, "ccd9405562e065c1c7566109c37d9194f8d518c7e132db74e1b20ea556803225"), looks := true }, kinds := [], alts := [], laidByText := true, laidKinds := [.handle, .sentinel, .sentinel, .sentinel, .sentinel, .sentinel, .sentinel, .sentinel, .sentinel, .sentinel, .sentinel], laidTests := true, laidLooks := .later }
def BlameNoneCardSaid : Prop := Claim7.holds Tryd.pinned (.plain (OpenSpec.ofChange blameNoneSpec)) blameNoneCard

/-- THE SECOND FORM's CARD OF 'syncopelaw29.ReportTallies'. -/
def reportTalliesUptoCard : Claim7 := { stood := { row := reportTalliesUptoRow, standIns := [], harness := (true, "ccd9405562e065c1c7566109c37d9194f8d518c7e132db74e1b20ea556803225"), looks := true }, kinds := [], alts := [], laidByText := true, laidKinds := [.data, .data, .data], laidTests := true, laidLooks := .later }
def ReportTalliesUptoCardSaid : Prop := Claim7.holds Tryd.pinned (.plain (OpenSpec.upto reportTalliesSpec)) reportTalliesUptoCard

/-- THE SECOND FORM's CARD OF 'syncopelaw1.BlameCodes'. -/
def blameCodesUptoCard : Claim7 := { stood := { row := blameCodesUptoRow, standIns := [], harness := (true, "ccd9405562e065c1c7566109c37d9194f8d518c7e132db74e1b20ea556803225"), looks := true }, kinds := [], alts := [], laidByText := true, laidKinds := [.sentinel, .sentinel, .sentinel, .sentinel, .sentinel, .sentinel, .sentinel, .sentinel, .sentinel, .sentinel], laidTests := true, laidLooks := .later }
def BlameCodesUptoCardSaid : Prop := Claim7.holds Tryd.pinned (.plain (OpenSpec.upto blameCodesSpec)) blameCodesUptoCard

/-- THE SECOND FORM's CARD OF 'syncopelaw1.BlameText'. -/
def blameTextUptoCard : Claim7 := { stood := { row := blameTextUptoRow, standIns := [], harness := (true, "ccd9405562e065c1c7566109c37d9194f8d518c7e132db74e1b20ea556803225"), looks := true }, kinds := [], alts := [], laidByText := true, laidKinds := [.data, .data, .data, .handle, .sentinel, .sentinel, .sentinel, .sentinel, .sentinel, .sentinel, .sentinel, .sentinel, .sentinel, .sentinel], laidTests := true, laidLooks := .later }
def BlameTextUptoCardSaid : Prop := Claim7.holds Tryd.pinned (.plain (OpenSpec.upto blameTextSpec)) blameTextUptoCard

/-- THE SECOND FORM's CARD OF 'syncopelaw1.BlameInner'. -/
def blameInnerUptoCard : Claim7 := { stood := { row := blameInnerUptoRow, standIns := [], harness := (true, "ccd9405562e065c1c7566109c37d9194f8d518c7e132db74e1b20ea556803225"), looks := true }, kinds := [], alts := [], laidByText := true, laidKinds := [.handle, .sentinel, .sentinel, .sentinel, .sentinel, .sentinel, .sentinel, .sentinel, .sentinel, .sentinel, .sentinel], laidTests := true, laidLooks := .later }
def BlameInnerUptoCardSaid : Prop := Claim7.holds Tryd.pinned (.plain (OpenSpec.upto blameInnerSpec)) blameInnerUptoCard

/-- THE SECOND FORM's CARD OF 'syncopelaw1.BlameChain'. -/
def blameChainUptoCard : Claim7 := { stood := { row := blameChainUptoRow, standIns := [], harness := (true, "ccd9405562e065c1c7566109c37d9194f8d518c7e132db74e1b20ea556803225"), looks := true }, kinds := [], alts := [], laidByText := true, laidKinds := [.handle, .sentinel, .sentinel, .sentinel, .sentinel, .sentinel, .sentinel, .sentinel, .sentinel, .sentinel, .sentinel], laidTests := true, laidLooks := .later }
def BlameChainUptoCardSaid : Prop := Claim7.holds Tryd.pinned (.plain (OpenSpec.upto blameChainSpec)) blameChainUptoCard

/-- THE SECOND FORM's CARD OF 'syncopelaw1.BlameNone'. -/
def blameNoneUptoCard : Claim7 := { stood := { row := blameNoneUptoRow, standIns := [], harness := (true, "ccd9405562e065c1c7566109c37d9194f8d518c7e132db74e1b20ea556803225"), looks := true }, kinds := [], alts := [], laidByText := true, laidKinds := [.handle, .sentinel, .sentinel, .sentinel, .sentinel, .sentinel, .sentinel, .sentinel, .sentinel, .sentinel, .sentinel], laidTests := true, laidLooks := .later }
def BlameNoneUptoCardSaid : Prop := Claim7.holds Tryd.pinned (.plain (OpenSpec.upto blameNoneSpec)) blameNoneUptoCard
end Rows
end Go.Proofs.YtomlcdalhihnaaaDoor
