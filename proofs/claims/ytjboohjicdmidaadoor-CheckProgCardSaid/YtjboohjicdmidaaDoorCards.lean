/-
  DERIVED. GIVEN WITH THE SEED: THE CARDS: each row of YtjboohjicdmidaaDoorRows.lean that lists a variable, with what it lists TIED to the program's text (the seventh form; the later family's looks); each row that meets fmt, with fmt's text TOLD by the authors' own Lean function (tested against real Go, not proved from fmt's source: count such statements apart). THE CARD IS WHAT COUNTS. Prove the row's statement (the work); the ties are given (YtjboohjicdmidaaDoorTie.lean); close each card by the builder's one call (the guide's Derived/Test/ToyasCard.lean, 'card_holds'). Laid BY PROGRAM, IN A SANDBOX (cutbox-door.mjs). By AI agents, Wed Nov 11 2026. No macro, syntax, notation, axiom, sorry.
-/
import Derived.Test.YtjboohjicdmidaaDoorRows
import GoSem.ClaimSeven
namespace Go.Proofs.YtjboohjicdmidaaDoor
namespace Rows

/-- THE TIED CARD OF 'syncopelaw6.CheckOrder'. -/
def checkOrderCard : Claim7 := { stood := { row := checkOrderRow, standIns := [], harness := (true, "070595c0a4808a80200d804301716f6f1ee7681eb6a3cc1ce7c7ba69858e29bb"), looks := true }, kinds := [], alts := [], laidByText := true, laidKinds := [.handle, .sentinel, .sentinel, .sentinel, .sentinel, .sentinel, .sentinel, .sentinel, .sentinel, .sentinel, .sentinel], laidTests := true, laidLooks := .later }
def CheckOrderCardSaid : Prop := Claim7.holds Tryd.pinned (.plain (OpenSpec.ofChange checkOrderSpec)) checkOrderCard

/-- THE TIED CARD OF 'syncopelaw6.CheckBuilt'. -/
def checkBuiltCard : Claim7 := { stood := { row := checkBuiltRow, standIns := [], harness := (true, "070595c0a4808a80200d804301716f6f1ee7681eb6a3cc1ce7c7ba69858e29bb"), looks := true }, kinds := [], alts := [], laidByText := true, laidKinds := [.handle, .sentinel, .sentinel, .sentinel, .sentinel, .sentinel, .sentinel, .sentinel, .sentinel, .sentinel, .sentinel], laidTests := true, laidLooks := .later }
def CheckBuiltCardSaid : Prop := Claim7.holds Tryd.pinned (.plain (OpenSpec.ofChange checkBuiltSpec)) checkBuiltCard

/-- THE TIED CARD OF 'syncopelaw6.CheckRegion'. -/
def checkRegionCard : Claim7 := { stood := { row := checkRegionRow, standIns := [], harness := (true, "070595c0a4808a80200d804301716f6f1ee7681eb6a3cc1ce7c7ba69858e29bb"), looks := true }, kinds := [], alts := [], laidByText := true, laidKinds := [.handle, .sentinel, .sentinel, .sentinel, .sentinel, .sentinel, .sentinel, .sentinel, .sentinel, .sentinel, .sentinel], laidTests := true, laidLooks := .later }
def CheckRegionCardSaid : Prop := Claim7.holds Tryd.pinned (.plain (OpenSpec.ofChange checkRegionSpec)) checkRegionCard

/-- THE TIED CARD OF 'syncopelaw6.CheckModes'. -/
def checkModesCard : Claim7 := { stood := { row := checkModesRow, standIns := [], harness := (true, "070595c0a4808a80200d804301716f6f1ee7681eb6a3cc1ce7c7ba69858e29bb"), looks := true }, kinds := [], alts := [], laidByText := true, laidKinds := [.handle, .sentinel, .sentinel, .sentinel, .sentinel, .sentinel, .sentinel, .sentinel, .sentinel, .sentinel, .sentinel], laidTests := true, laidLooks := .later }
def CheckModesCardSaid : Prop := Claim7.holds Tryd.pinned (.plain (OpenSpec.ofChange checkModesSpec)) checkModesCard

/-- THE TIED CARD OF 'syncopelaw6.CheckProg'. -/
def checkProgCard : Claim7 := { stood := { row := checkProgRow, standIns := [], harness := (true, "070595c0a4808a80200d804301716f6f1ee7681eb6a3cc1ce7c7ba69858e29bb"), looks := true }, kinds := [], alts := [], laidByText := true, laidKinds := [.handle, .sentinel, .sentinel, .sentinel, .sentinel, .sentinel, .sentinel, .sentinel, .sentinel, .sentinel, .sentinel], laidTests := true, laidLooks := .later }
def CheckProgCardSaid : Prop := Claim7.holds Tryd.pinned (.plain (OpenSpec.ofChange checkProgSpec)) checkProgCard

/-- THE TIED CARD OF 'syncopelaw6.CheckConfig'. -/
def checkConfigCard : Claim7 := { stood := { row := checkConfigRow, standIns := [], harness := (true, "070595c0a4808a80200d804301716f6f1ee7681eb6a3cc1ce7c7ba69858e29bb"), looks := true }, kinds := [], alts := [], laidByText := true, laidKinds := [.handle, .sentinel, .sentinel, .sentinel, .sentinel, .sentinel, .sentinel, .sentinel, .sentinel, .sentinel, .sentinel], laidTests := true, laidLooks := .later }
def CheckConfigCardSaid : Prop := Claim7.holds Tryd.pinned (.plain (OpenSpec.ofChange checkConfigSpec)) checkConfigCard

/-- THE SECOND FORM's CARD OF 'syncopelaw6.CheckOrder'. -/
def checkOrderUptoCard : Claim7 := { stood := { row := checkOrderUptoRow, standIns := [], harness := (true, "070595c0a4808a80200d804301716f6f1ee7681eb6a3cc1ce7c7ba69858e29bb"), looks := true }, kinds := [], alts := [], laidByText := true, laidKinds := [.handle, .sentinel, .sentinel, .sentinel, .sentinel, .sentinel, .sentinel, .sentinel, .sentinel, .sentinel, .sentinel], laidTests := true, laidLooks := .later }
def CheckOrderUptoCardSaid : Prop := Claim7.holds Tryd.pinned (.plain (OpenSpec.upto checkOrderSpec)) checkOrderUptoCard

/-- THE SECOND FORM's CARD OF 'syncopelaw6.CheckBuilt'. -/
def checkBuiltUptoCard : Claim7 := { stood := { row := checkBuiltUptoRow, standIns := [], harness := (true, "070595c0a4808a80200d804301716f6f1ee7681eb6a3cc1ce7c7ba69858e29bb"), looks := true }, kinds := [], alts := [], laidByText := true, laidKinds := [.handle, .sentinel, .sentinel, .sentinel, .sentinel, .sentinel, .sentinel, .sentinel, .sentinel, .sentinel, .sentinel], laidTests := true, laidLooks := .later }
def CheckBuiltUptoCardSaid : Prop := Claim7.holds Tryd.pinned (.plain (OpenSpec.upto checkBuiltSpec)) checkBuiltUptoCard

/-- THE SECOND FORM's CARD OF 'syncopelaw6.CheckRegion'. -/
def checkRegionUptoCard : Claim7 := { stood := { row := checkRegionUptoRow, standIns := [], harness := (true, "070595c0a4808a80200d804301716f6f1ee7681eb6a3cc1ce7c7ba69858e29bb"), looks := true }, kinds := [], alts := [], laidByText := true, laidKinds := [.handle, .sentinel, .sentinel, .sentinel, .sentinel, .sentinel, .sentinel, .sentinel, .sentinel, .sentinel, .sentinel], laidTests := true, laidLooks := .later }
def CheckRegionUptoCardSaid : Prop := Claim7.holds Tryd.pinned (.plain (OpenSpec.upto checkRegionSpec)) checkRegionUptoCard

/-- THE SECOND FORM's CARD OF 'syncopelaw6.CheckModes'. -/
def checkModesUptoCard : Claim7 := { stood := { row := checkModesUptoRow, standIns := [], harness := (true, "070595c0a4808a80200d804301716f6f1ee7681eb6a3cc1ce7c7ba69858e29bb"), looks := true }, kinds := [], alts := [], laidByText := true, laidKinds := [.handle, .sentinel, .sentinel, .sentinel, .sentinel, .sentinel, .sentinel, .sentinel, .sentinel, .sentinel, .sentinel], laidTests := true, laidLooks := .later }
def CheckModesUptoCardSaid : Prop := Claim7.holds Tryd.pinned (.plain (OpenSpec.upto checkModesSpec)) checkModesUptoCard

/-- THE SECOND FORM's CARD OF 'syncopelaw6.CheckProg'. -/
def checkProgUptoCard : Claim7 := { stood := { row := checkProgUptoRow, standIns := [], harness := (true, "070595c0a4808a80200d804301716f6f1ee7681eb6a3cc1ce7c7ba69858e29bb"), looks := true }, kinds := [], alts := [], laidByText := true, laidKinds := [.handle, .sentinel, .sentinel, .sentinel, .sentinel, .sentinel, .sentinel, .sentinel, .sentinel, .sentinel, .sentinel], laidTests := true, laidLooks := .later }
def CheckProgUptoCardSaid : Prop := Claim7.holds Tryd.pinned (.plain (OpenSpec.upto checkProgSpec)) checkProgUptoCard

/-- THE SECOND FORM's CARD OF 'syncopelaw6.CheckConfig'. -/
def checkConfigUptoCard : Claim7 := { stood := { row := checkConfigUptoRow, standIns := [], harness := (true, "070595c0a4808a80200d804301716f6f1ee7681eb6a3cc1ce7c7ba69858e29bb"), looks := true }, kinds := [], alts := [], laidByText := true, laidKinds := [.handle, .sentinel, .sentinel, .sentinel, .sentinel, .sentinel, .sentinel, .sentinel, .sentinel, .sentinel, .sentinel], laidTests := true, laidLooks := .later }
def CheckConfigUptoCardSaid : Prop := Claim7.holds Tryd.pinned (.plain (OpenSpec.upto checkConfigSpec)) checkConfigUptoCard
end Rows
end Go.Proofs.YtjboohjicdmidaaDoor
