/-
  NARROWER THAN 'FOR EVERY INPUT', by the rows' own cells (each row's printed sentence says how): CheckOrder: laid · CheckBuilt: laid · CheckRegion: laid · CheckModes: laid · CheckProg: laid · CheckConfig: laid.
  DERIVED. THE GIVEN ROWS OF THIS SEAT. 6 by the template 'for every input the law returns true; each argument reads behind the call as it read before'; 0 by the template 'total and deterministic' (their statements: YtjboohjicdmidaaDoorTotals.lean).
  GIVEN WITH THE SEED: the statements are not yours to turn. If you find one false, say at which input.
  Laid BY PROGRAM, IN A SANDBOX (cutbox-rows.mjs): the forced cells as the released guide's own fill.sh prints them over the translation 02dce7eac057ed8e… (all of the seat's roots in one cut). By AI agents, Wed Nov 11 2026. No macro, syntax, notation, axiom, sorry.
-/
import Derived.Test.YtjboohjicdmidaaDoorChecked
import GoSem.Claim
import GoSem.ClaimJoined
import GoSem.ClaimMapViews
import Derived.JoinedTies
import Derived.KernelRfl
namespace Go.Proofs.YtjboohjicdmidaaDoor
/- THE CELL 'sum', in the pinned program and in every row, IS THE sha256 OF THE DUMP (.gsa) THAT YtjboohjicdmidaaDoorProg.lean LOADS. Nothing in Lean hashes anything: it is a label: what it is worth is what the hold of that sum in a sandbox is worth. -/
noncomputable def Tryd.pinned : Pinned := { name := "ytjboohjicdmidaadoor", sum := "02dce7eac057ed8ebeab25cbd25ed5a5102e45b6cb06fa478fa9a696db0ce7bd", checked := Tryd.checked }
namespace Rows
def none {H : Type} : Left H := { results := [], args := [] }

/- WHAT THE LISTED PACKAGE-LEVEL VARIABLES READ AS WHEN THE CALL BEGINS. Each datum BY PROGRAM (the guide's laid-datum.mjs) off the statement by which the dump's own 'gosem.cut.vars' lays the variable. In a bare row this is a premise. The card (YtjboohjicdmidaaDoorCards.lean) ties it to the program's text. -/
def laid_errors_errorType {H : Type} : DataW H := .iface "internal/reflectlite.rtype" (.agg [.ptr (.lit (.string [101, 114, 114, 111, 114]))])
def laid_syncope_blame_errArg {H : Type} : DataW H := .iface "*errors.errorString" (.ptr (.agg [.lit (.string [99, 111, 100, 101, 32, 49])]))
def laid_syncope_blame_errRange {H : Type} : DataW H := .iface "*errors.errorString" (.ptr (.agg [.lit (.string [99, 111, 100, 101, 32, 50])]))
def laid_syncope_blame_errText {H : Type} : DataW H := .iface "*errors.errorString" (.ptr (.agg [.lit (.string [99, 111, 100, 101, 32, 51])]))
def laid_syncope_blame_errLarge {H : Type} : DataW H := .iface "*errors.errorString" (.ptr (.agg [.lit (.string [99, 111, 100, 101, 32, 52])]))
def laid_syncope_blame_errBlock {H : Type} : DataW H := .iface "*errors.errorString" (.ptr (.agg [.lit (.string [99, 111, 100, 101, 32, 53])]))
def laid_syncope_blame_errLock {H : Type} : DataW H := .iface "*errors.errorString" (.ptr (.agg [.lit (.string [99, 111, 100, 101, 32, 54])]))
def laid_syncope_blame_errMode {H : Type} : DataW H := .iface "*errors.errorString" (.ptr (.agg [.lit (.string [99, 111, 100, 101, 32, 55])]))
def laid_syncope_blame_errOrder {H : Type} : DataW H := .iface "*errors.errorString" (.ptr (.agg [.lit (.string [99, 111, 100, 101, 32, 56])]))
def laid_syncope_blame_errCond {H : Type} : DataW H := .iface "*errors.errorString" (.ptr (.agg [.lit (.string [99, 111, 100, 101, 32, 57])]))
def laid_syncope_blame_errState {H : Type} : DataW H := .iface "*errors.errorString" (.ptr (.agg [.lit (.string [99, 111, 100, 101, 32, 49, 48])]))

/-- 'syncopelaw6.CheckOrder': WHATEVER THE INPUT: true; the input reads as it did. -/
def checkOrderSpec : ChangeSpec := { name := "checkOrder", fn := fun _ => fun
  | [d1, d2, d3] => { results := [.lit (.bool true)], args := [d1, d2, d3] }
  | _ => none }
def checkOrderRow : OpenClaim := { program := "ytjboohjicdmidaadoor", sum := "02dce7eac057ed8ebeab25cbd25ed5a5102e45b6cb06fa478fa9a696db0ce7bd", func := "syncope/syncopelaw6.CheckOrder", spec := "checkOrder", inPlace := ["internal/reflectlite.ValueOf", "(internal/reflectlite.Value).Type", "(internal/reflectlite.Value).IsNil", "internal/reflectlite.TypeOf", "(internal/reflectlite.Value).Elem", "(internal/reflectlite.Value).Set"], unfollowed := true, recurses := true, named := ["syncope/blame.errArg", "syncope/blame.errRange", "syncope/blame.errText", "syncope/blame.errLarge", "syncope/blame.errBlock", "syncope/blame.errLock", "syncope/blame.errMode", "syncope/blame.errOrder", "syncope/blame.errCond", "syncope/blame.errState", "errors.errorType"], apart := false, laid := [("errors.errorType", laid_errors_errorType), ("syncope/blame.errArg", laid_syncope_blame_errArg), ("syncope/blame.errRange", laid_syncope_blame_errRange), ("syncope/blame.errText", laid_syncope_blame_errText), ("syncope/blame.errLarge", laid_syncope_blame_errLarge), ("syncope/blame.errBlock", laid_syncope_blame_errBlock), ("syncope/blame.errLock", laid_syncope_blame_errLock), ("syncope/blame.errMode", laid_syncope_blame_errMode), ("syncope/blame.errOrder", laid_syncope_blame_errOrder), ("syncope/blame.errCond", laid_syncope_blame_errCond), ("syncope/blame.errState", laid_syncope_blame_errState)] }
def CheckOrderSaid : Prop := checkOrderRow.holds Tryd.pinned (OpenSpec.ofChange checkOrderSpec)

/-- ITS FALSE NEIGHBOUR: 'it returns false'. Refute it at one input. -/
def checkOrderWrong : ChangeSpec := { name := "checkOrder", fn := fun _ => fun
  | [d1, d2, d3] => { results := [.lit (.bool false)], args := [d1, d2, d3] }
  | _ => none }
def CheckOrderWrongFalsely : Prop := checkOrderRow.holds Tryd.pinned (OpenSpec.ofChange checkOrderWrong)

/-- 'syncopelaw6.CheckBuilt': WHATEVER THE INPUT: true; the input reads as it did. -/
def checkBuiltSpec : ChangeSpec := { name := "checkBuilt", fn := fun _ => fun
  | [d1, d2] => { results := [.lit (.bool true)], args := [d1, d2] }
  | _ => none }
def checkBuiltRow : OpenClaim := { program := "ytjboohjicdmidaadoor", sum := "02dce7eac057ed8ebeab25cbd25ed5a5102e45b6cb06fa478fa9a696db0ce7bd", func := "syncope/syncopelaw6.CheckBuilt", spec := "checkBuilt", inPlace := ["internal/reflectlite.ValueOf", "(internal/reflectlite.Value).Type", "(internal/reflectlite.Value).IsNil", "internal/reflectlite.TypeOf", "(internal/reflectlite.Value).Elem", "(internal/reflectlite.Value).Set"], unfollowed := true, recurses := true, named := ["syncope/blame.errArg", "syncope/blame.errRange", "syncope/blame.errText", "syncope/blame.errLarge", "syncope/blame.errBlock", "syncope/blame.errLock", "syncope/blame.errMode", "syncope/blame.errOrder", "syncope/blame.errCond", "syncope/blame.errState", "errors.errorType"], apart := false, laid := [("errors.errorType", laid_errors_errorType), ("syncope/blame.errArg", laid_syncope_blame_errArg), ("syncope/blame.errRange", laid_syncope_blame_errRange), ("syncope/blame.errText", laid_syncope_blame_errText), ("syncope/blame.errLarge", laid_syncope_blame_errLarge), ("syncope/blame.errBlock", laid_syncope_blame_errBlock), ("syncope/blame.errLock", laid_syncope_blame_errLock), ("syncope/blame.errMode", laid_syncope_blame_errMode), ("syncope/blame.errOrder", laid_syncope_blame_errOrder), ("syncope/blame.errCond", laid_syncope_blame_errCond), ("syncope/blame.errState", laid_syncope_blame_errState)] }
def CheckBuiltSaid : Prop := checkBuiltRow.holds Tryd.pinned (OpenSpec.ofChange checkBuiltSpec)

/-- ITS FALSE NEIGHBOUR: 'it returns false'. Refute it at one input. -/
def checkBuiltWrong : ChangeSpec := { name := "checkBuilt", fn := fun _ => fun
  | [d1, d2] => { results := [.lit (.bool false)], args := [d1, d2] }
  | _ => none }
def CheckBuiltWrongFalsely : Prop := checkBuiltRow.holds Tryd.pinned (OpenSpec.ofChange checkBuiltWrong)

/-- 'syncopelaw6.CheckRegion': WHATEVER THE INPUT: true; the input reads as it did. -/
def checkRegionSpec : ChangeSpec := { name := "checkRegion", fn := fun _ => fun
  | [d1, d2] => { results := [.lit (.bool true)], args := [d1, d2] }
  | _ => none }
def checkRegionRow : OpenClaim := { program := "ytjboohjicdmidaadoor", sum := "02dce7eac057ed8ebeab25cbd25ed5a5102e45b6cb06fa478fa9a696db0ce7bd", func := "syncope/syncopelaw6.CheckRegion", spec := "checkRegion", inPlace := ["internal/reflectlite.ValueOf", "(internal/reflectlite.Value).Type", "(internal/reflectlite.Value).IsNil", "internal/reflectlite.TypeOf", "(internal/reflectlite.Value).Elem", "(internal/reflectlite.Value).Set"], unfollowed := true, recurses := true, named := ["syncope/blame.errArg", "syncope/blame.errRange", "syncope/blame.errText", "syncope/blame.errLarge", "syncope/blame.errBlock", "syncope/blame.errLock", "syncope/blame.errMode", "syncope/blame.errOrder", "syncope/blame.errCond", "syncope/blame.errState", "errors.errorType"], apart := false, laid := [("errors.errorType", laid_errors_errorType), ("syncope/blame.errArg", laid_syncope_blame_errArg), ("syncope/blame.errRange", laid_syncope_blame_errRange), ("syncope/blame.errText", laid_syncope_blame_errText), ("syncope/blame.errLarge", laid_syncope_blame_errLarge), ("syncope/blame.errBlock", laid_syncope_blame_errBlock), ("syncope/blame.errLock", laid_syncope_blame_errLock), ("syncope/blame.errMode", laid_syncope_blame_errMode), ("syncope/blame.errOrder", laid_syncope_blame_errOrder), ("syncope/blame.errCond", laid_syncope_blame_errCond), ("syncope/blame.errState", laid_syncope_blame_errState)] }
def CheckRegionSaid : Prop := checkRegionRow.holds Tryd.pinned (OpenSpec.ofChange checkRegionSpec)

/-- ITS FALSE NEIGHBOUR: 'it returns false'. Refute it at one input. -/
def checkRegionWrong : ChangeSpec := { name := "checkRegion", fn := fun _ => fun
  | [d1, d2] => { results := [.lit (.bool false)], args := [d1, d2] }
  | _ => none }
def CheckRegionWrongFalsely : Prop := checkRegionRow.holds Tryd.pinned (OpenSpec.ofChange checkRegionWrong)

/-- 'syncopelaw6.CheckModes': WHATEVER THE INPUT: true; the input reads as it did. -/
def checkModesSpec : ChangeSpec := { name := "checkModes", fn := fun _ => fun
  | [d1, d2] => { results := [.lit (.bool true)], args := [d1, d2] }
  | _ => none }
def checkModesRow : OpenClaim := { program := "ytjboohjicdmidaadoor", sum := "02dce7eac057ed8ebeab25cbd25ed5a5102e45b6cb06fa478fa9a696db0ce7bd", func := "syncope/syncopelaw6.CheckModes", spec := "checkModes", inPlace := ["internal/reflectlite.ValueOf", "(internal/reflectlite.Value).Type", "(internal/reflectlite.Value).IsNil", "internal/reflectlite.TypeOf", "(internal/reflectlite.Value).Elem", "(internal/reflectlite.Value).Set"], unfollowed := true, recurses := true, named := ["syncope/blame.errArg", "syncope/blame.errRange", "syncope/blame.errText", "syncope/blame.errLarge", "syncope/blame.errBlock", "syncope/blame.errLock", "syncope/blame.errMode", "syncope/blame.errOrder", "syncope/blame.errCond", "syncope/blame.errState", "errors.errorType"], apart := false, laid := [("errors.errorType", laid_errors_errorType), ("syncope/blame.errArg", laid_syncope_blame_errArg), ("syncope/blame.errRange", laid_syncope_blame_errRange), ("syncope/blame.errText", laid_syncope_blame_errText), ("syncope/blame.errLarge", laid_syncope_blame_errLarge), ("syncope/blame.errBlock", laid_syncope_blame_errBlock), ("syncope/blame.errLock", laid_syncope_blame_errLock), ("syncope/blame.errMode", laid_syncope_blame_errMode), ("syncope/blame.errOrder", laid_syncope_blame_errOrder), ("syncope/blame.errCond", laid_syncope_blame_errCond), ("syncope/blame.errState", laid_syncope_blame_errState)] }
def CheckModesSaid : Prop := checkModesRow.holds Tryd.pinned (OpenSpec.ofChange checkModesSpec)

/-- ITS FALSE NEIGHBOUR: 'it returns false'. Refute it at one input. -/
def checkModesWrong : ChangeSpec := { name := "checkModes", fn := fun _ => fun
  | [d1, d2] => { results := [.lit (.bool false)], args := [d1, d2] }
  | _ => none }
def CheckModesWrongFalsely : Prop := checkModesRow.holds Tryd.pinned (OpenSpec.ofChange checkModesWrong)

/-- 'syncopelaw6.CheckProg': WHATEVER THE INPUT: true; the input reads as it did. -/
def checkProgSpec : ChangeSpec := { name := "checkProg", fn := fun _ => fun
  | [d1, d2, d3, d4, d5] => { results := [.lit (.bool true)], args := [d1, d2, d3, d4, d5] }
  | _ => none }
def checkProgRow : OpenClaim := { program := "ytjboohjicdmidaadoor", sum := "02dce7eac057ed8ebeab25cbd25ed5a5102e45b6cb06fa478fa9a696db0ce7bd", func := "syncope/syncopelaw6.CheckProg", spec := "checkProg", inPlace := ["internal/reflectlite.ValueOf", "(internal/reflectlite.Value).Type", "(internal/reflectlite.Value).IsNil", "internal/reflectlite.TypeOf", "(internal/reflectlite.Value).Elem", "(internal/reflectlite.Value).Set"], unfollowed := true, recurses := true, named := ["syncope/blame.errArg", "syncope/blame.errRange", "syncope/blame.errText", "syncope/blame.errLarge", "syncope/blame.errBlock", "syncope/blame.errLock", "syncope/blame.errMode", "syncope/blame.errOrder", "syncope/blame.errCond", "syncope/blame.errState", "errors.errorType"], apart := false, laid := [("errors.errorType", laid_errors_errorType), ("syncope/blame.errArg", laid_syncope_blame_errArg), ("syncope/blame.errRange", laid_syncope_blame_errRange), ("syncope/blame.errText", laid_syncope_blame_errText), ("syncope/blame.errLarge", laid_syncope_blame_errLarge), ("syncope/blame.errBlock", laid_syncope_blame_errBlock), ("syncope/blame.errLock", laid_syncope_blame_errLock), ("syncope/blame.errMode", laid_syncope_blame_errMode), ("syncope/blame.errOrder", laid_syncope_blame_errOrder), ("syncope/blame.errCond", laid_syncope_blame_errCond), ("syncope/blame.errState", laid_syncope_blame_errState)] }
def CheckProgSaid : Prop := checkProgRow.holds Tryd.pinned (OpenSpec.ofChange checkProgSpec)

/-- ITS FALSE NEIGHBOUR: 'it returns false'. Refute it at one input. -/
def checkProgWrong : ChangeSpec := { name := "checkProg", fn := fun _ => fun
  | [d1, d2, d3, d4, d5] => { results := [.lit (.bool false)], args := [d1, d2, d3, d4, d5] }
  | _ => none }
def CheckProgWrongFalsely : Prop := checkProgRow.holds Tryd.pinned (OpenSpec.ofChange checkProgWrong)

/-- 'syncopelaw6.CheckConfig': WHATEVER THE INPUT: true; the input reads as it did. -/
def checkConfigSpec : ChangeSpec := { name := "checkConfig", fn := fun _ => fun
  | [d1, d2, d3, d4, d5, d6] => { results := [.lit (.bool true)], args := [d1, d2, d3, d4, d5, d6] }
  | _ => none }
def checkConfigRow : OpenClaim := { program := "ytjboohjicdmidaadoor", sum := "02dce7eac057ed8ebeab25cbd25ed5a5102e45b6cb06fa478fa9a696db0ce7bd", func := "syncope/syncopelaw6.CheckConfig", spec := "checkConfig", inPlace := ["internal/reflectlite.ValueOf", "(internal/reflectlite.Value).Type", "(internal/reflectlite.Value).IsNil", "internal/reflectlite.TypeOf", "(internal/reflectlite.Value).Elem", "(internal/reflectlite.Value).Set"], unfollowed := true, recurses := true, named := ["syncope/blame.errArg", "syncope/blame.errRange", "syncope/blame.errText", "syncope/blame.errLarge", "syncope/blame.errBlock", "syncope/blame.errLock", "syncope/blame.errMode", "syncope/blame.errOrder", "syncope/blame.errCond", "syncope/blame.errState", "errors.errorType"], apart := false, laid := [("errors.errorType", laid_errors_errorType), ("syncope/blame.errArg", laid_syncope_blame_errArg), ("syncope/blame.errRange", laid_syncope_blame_errRange), ("syncope/blame.errText", laid_syncope_blame_errText), ("syncope/blame.errLarge", laid_syncope_blame_errLarge), ("syncope/blame.errBlock", laid_syncope_blame_errBlock), ("syncope/blame.errLock", laid_syncope_blame_errLock), ("syncope/blame.errMode", laid_syncope_blame_errMode), ("syncope/blame.errOrder", laid_syncope_blame_errOrder), ("syncope/blame.errCond", laid_syncope_blame_errCond), ("syncope/blame.errState", laid_syncope_blame_errState)] }
def CheckConfigSaid : Prop := checkConfigRow.holds Tryd.pinned (OpenSpec.ofChange checkConfigSpec)

/-- ITS FALSE NEIGHBOUR: 'it returns false'. Refute it at one input. -/
def checkConfigWrong : ChangeSpec := { name := "checkConfig", fn := fun _ => fun
  | [d1, d2, d3, d4, d5, d6] => { results := [.lit (.bool false)], args := [d1, d2, d3, d4, d5, d6] }
  | _ => none }
def CheckConfigWrongFalsely : Prop := checkConfigRow.holds Tryd.pinned (OpenSpec.ofChange checkConfigWrong)

/- THE SECOND FORM. 'bulk': how many values and letters a reading holds, each counted each time it is reached (what is shared counts as often as it is met; a slice's spare places count too). A statement '..UptoSaid' is the law's where the arguments, and the package variables that the reading takes, are together of bulk at most 1048576: NARROWER than '..Said'. Prove '..Said' where nothing that the law and all that it calls make is longer than what came in: it says more and counts as full. Else prove '..UptoSaid'. A law counts once. -/
mutual
def uptoBulk {H : Type} : DataW H → Nat
  | .lit (.string bytes) => bytes.length + 1
  | .lit _ => 1
  | .nil => 1
  | .ptr d => uptoBulk d + 1
  | .slice elems spare => uptoBulkAll elems + uptoBulkAll spare + 1
  | .agg parts => uptoBulkAll parts + 1
  | .iface _ d => uptoBulk d + 1
  | .map entries => uptoBulkEntries entries + 1
  | .held _ => 1
def uptoBulkAll {H : Type} : List (DataW H) → Nat
  | [] => 0
  | d :: r => uptoBulk d + uptoBulkAll r
def uptoBulkEntries {H : Type} : List (Lit × DataW H) → Nat
  | [] => 0
  | x :: r => uptoBulkEntry x + uptoBulkEntries r
def uptoBulkEntry {H : Type} : Lit × DataW H → Nat
  | (.string bytes, d) => bytes.length + uptoBulk d + 1
  | (_, d) => uptoBulk d + 1
 end
def uptoSmall : (H : Type) → List (DataW H) → Bool := fun _ ds => decide (uptoBulkAll ds ≤ 1048576)
def OpenSpec.upto (s : _root_.Go.ChangeSpec) : _root_.Go.OpenSpec := { _root_.Go.OpenSpec.ofChange s with cond := some uptoSmall }

/-- 'syncopelaw6.CheckOrder', WHERE WHAT IT READS IS OF BULK AT MOST 1048576: true; the input reads as it did. -/
def checkOrderUptoRow : OpenClaim := { program := "ytjboohjicdmidaadoor", sum := "02dce7eac057ed8ebeab25cbd25ed5a5102e45b6cb06fa478fa9a696db0ce7bd", func := "syncope/syncopelaw6.CheckOrder", spec := "checkOrder", inPlace := ["internal/reflectlite.ValueOf", "(internal/reflectlite.Value).Type", "(internal/reflectlite.Value).IsNil", "internal/reflectlite.TypeOf", "(internal/reflectlite.Value).Elem", "(internal/reflectlite.Value).Set"], unfollowed := true, recurses := true, named := ["syncope/blame.errArg", "syncope/blame.errRange", "syncope/blame.errText", "syncope/blame.errLarge", "syncope/blame.errBlock", "syncope/blame.errLock", "syncope/blame.errMode", "syncope/blame.errOrder", "syncope/blame.errCond", "syncope/blame.errState", "errors.errorType"], apart := false, laid := [("errors.errorType", laid_errors_errorType), ("syncope/blame.errArg", laid_syncope_blame_errArg), ("syncope/blame.errRange", laid_syncope_blame_errRange), ("syncope/blame.errText", laid_syncope_blame_errText), ("syncope/blame.errLarge", laid_syncope_blame_errLarge), ("syncope/blame.errBlock", laid_syncope_blame_errBlock), ("syncope/blame.errLock", laid_syncope_blame_errLock), ("syncope/blame.errMode", laid_syncope_blame_errMode), ("syncope/blame.errOrder", laid_syncope_blame_errOrder), ("syncope/blame.errCond", laid_syncope_blame_errCond), ("syncope/blame.errState", laid_syncope_blame_errState)], narrowed := true }
def CheckOrderUptoSaid : Prop := checkOrderUptoRow.holds Tryd.pinned (OpenSpec.upto checkOrderSpec)

/-- 'syncopelaw6.CheckBuilt', WHERE WHAT IT READS IS OF BULK AT MOST 1048576: true; the input reads as it did. -/
def checkBuiltUptoRow : OpenClaim := { program := "ytjboohjicdmidaadoor", sum := "02dce7eac057ed8ebeab25cbd25ed5a5102e45b6cb06fa478fa9a696db0ce7bd", func := "syncope/syncopelaw6.CheckBuilt", spec := "checkBuilt", inPlace := ["internal/reflectlite.ValueOf", "(internal/reflectlite.Value).Type", "(internal/reflectlite.Value).IsNil", "internal/reflectlite.TypeOf", "(internal/reflectlite.Value).Elem", "(internal/reflectlite.Value).Set"], unfollowed := true, recurses := true, named := ["syncope/blame.errArg", "syncope/blame.errRange", "syncope/blame.errText", "syncope/blame.errLarge", "syncope/blame.errBlock", "syncope/blame.errLock", "syncope/blame.errMode", "syncope/blame.errOrder", "syncope/blame.errCond", "syncope/blame.errState", "errors.errorType"], apart := false, laid := [("errors.errorType", laid_errors_errorType), ("syncope/blame.errArg", laid_syncope_blame_errArg), ("syncope/blame.errRange", laid_syncope_blame_errRange), ("syncope/blame.errText", laid_syncope_blame_errText), ("syncope/blame.errLarge", laid_syncope_blame_errLarge), ("syncope/blame.errBlock", laid_syncope_blame_errBlock), ("syncope/blame.errLock", laid_syncope_blame_errLock), ("syncope/blame.errMode", laid_syncope_blame_errMode), ("syncope/blame.errOrder", laid_syncope_blame_errOrder), ("syncope/blame.errCond", laid_syncope_blame_errCond), ("syncope/blame.errState", laid_syncope_blame_errState)], narrowed := true }
def CheckBuiltUptoSaid : Prop := checkBuiltUptoRow.holds Tryd.pinned (OpenSpec.upto checkBuiltSpec)

/-- 'syncopelaw6.CheckRegion', WHERE WHAT IT READS IS OF BULK AT MOST 1048576: true; the input reads as it did. -/
def checkRegionUptoRow : OpenClaim := { program := "ytjboohjicdmidaadoor", sum := "02dce7eac057ed8ebeab25cbd25ed5a5102e45b6cb06fa478fa9a696db0ce7bd", func := "syncope/syncopelaw6.CheckRegion", spec := "checkRegion", inPlace := ["internal/reflectlite.ValueOf", "(internal/reflectlite.Value).Type", "(internal/reflectlite.Value).IsNil", "internal/reflectlite.TypeOf", "(internal/reflectlite.Value).Elem", "(internal/reflectlite.Value).Set"], unfollowed := true, recurses := true, named := ["syncope/blame.errArg", "syncope/blame.errRange", "syncope/blame.errText", "syncope/blame.errLarge", "syncope/blame.errBlock", "syncope/blame.errLock", "syncope/blame.errMode", "syncope/blame.errOrder", "syncope/blame.errCond", "syncope/blame.errState", "errors.errorType"], apart := false, laid := [("errors.errorType", laid_errors_errorType), ("syncope/blame.errArg", laid_syncope_blame_errArg), ("syncope/blame.errRange", laid_syncope_blame_errRange), ("syncope/blame.errText", laid_syncope_blame_errText), ("syncope/blame.errLarge", laid_syncope_blame_errLarge), ("syncope/blame.errBlock", laid_syncope_blame_errBlock), ("syncope/blame.errLock", laid_syncope_blame_errLock), ("syncope/blame.errMode", laid_syncope_blame_errMode), ("syncope/blame.errOrder", laid_syncope_blame_errOrder), ("syncope/blame.errCond", laid_syncope_blame_errCond), ("syncope/blame.errState", laid_syncope_blame_errState)], narrowed := true }
def CheckRegionUptoSaid : Prop := checkRegionUptoRow.holds Tryd.pinned (OpenSpec.upto checkRegionSpec)

/-- 'syncopelaw6.CheckModes', WHERE WHAT IT READS IS OF BULK AT MOST 1048576: true; the input reads as it did. -/
def checkModesUptoRow : OpenClaim := { program := "ytjboohjicdmidaadoor", sum := "02dce7eac057ed8ebeab25cbd25ed5a5102e45b6cb06fa478fa9a696db0ce7bd", func := "syncope/syncopelaw6.CheckModes", spec := "checkModes", inPlace := ["internal/reflectlite.ValueOf", "(internal/reflectlite.Value).Type", "(internal/reflectlite.Value).IsNil", "internal/reflectlite.TypeOf", "(internal/reflectlite.Value).Elem", "(internal/reflectlite.Value).Set"], unfollowed := true, recurses := true, named := ["syncope/blame.errArg", "syncope/blame.errRange", "syncope/blame.errText", "syncope/blame.errLarge", "syncope/blame.errBlock", "syncope/blame.errLock", "syncope/blame.errMode", "syncope/blame.errOrder", "syncope/blame.errCond", "syncope/blame.errState", "errors.errorType"], apart := false, laid := [("errors.errorType", laid_errors_errorType), ("syncope/blame.errArg", laid_syncope_blame_errArg), ("syncope/blame.errRange", laid_syncope_blame_errRange), ("syncope/blame.errText", laid_syncope_blame_errText), ("syncope/blame.errLarge", laid_syncope_blame_errLarge), ("syncope/blame.errBlock", laid_syncope_blame_errBlock), ("syncope/blame.errLock", laid_syncope_blame_errLock), ("syncope/blame.errMode", laid_syncope_blame_errMode), ("syncope/blame.errOrder", laid_syncope_blame_errOrder), ("syncope/blame.errCond", laid_syncope_blame_errCond), ("syncope/blame.errState", laid_syncope_blame_errState)], narrowed := true }
def CheckModesUptoSaid : Prop := checkModesUptoRow.holds Tryd.pinned (OpenSpec.upto checkModesSpec)

/-- 'syncopelaw6.CheckProg', WHERE WHAT IT READS IS OF BULK AT MOST 1048576: true; the input reads as it did. -/
def checkProgUptoRow : OpenClaim := { program := "ytjboohjicdmidaadoor", sum := "02dce7eac057ed8ebeab25cbd25ed5a5102e45b6cb06fa478fa9a696db0ce7bd", func := "syncope/syncopelaw6.CheckProg", spec := "checkProg", inPlace := ["internal/reflectlite.ValueOf", "(internal/reflectlite.Value).Type", "(internal/reflectlite.Value).IsNil", "internal/reflectlite.TypeOf", "(internal/reflectlite.Value).Elem", "(internal/reflectlite.Value).Set"], unfollowed := true, recurses := true, named := ["syncope/blame.errArg", "syncope/blame.errRange", "syncope/blame.errText", "syncope/blame.errLarge", "syncope/blame.errBlock", "syncope/blame.errLock", "syncope/blame.errMode", "syncope/blame.errOrder", "syncope/blame.errCond", "syncope/blame.errState", "errors.errorType"], apart := false, laid := [("errors.errorType", laid_errors_errorType), ("syncope/blame.errArg", laid_syncope_blame_errArg), ("syncope/blame.errRange", laid_syncope_blame_errRange), ("syncope/blame.errText", laid_syncope_blame_errText), ("syncope/blame.errLarge", laid_syncope_blame_errLarge), ("syncope/blame.errBlock", laid_syncope_blame_errBlock), ("syncope/blame.errLock", laid_syncope_blame_errLock), ("syncope/blame.errMode", laid_syncope_blame_errMode), ("syncope/blame.errOrder", laid_syncope_blame_errOrder), ("syncope/blame.errCond", laid_syncope_blame_errCond), ("syncope/blame.errState", laid_syncope_blame_errState)], narrowed := true }
def CheckProgUptoSaid : Prop := checkProgUptoRow.holds Tryd.pinned (OpenSpec.upto checkProgSpec)

/-- 'syncopelaw6.CheckConfig', WHERE WHAT IT READS IS OF BULK AT MOST 1048576: true; the input reads as it did. -/
def checkConfigUptoRow : OpenClaim := { program := "ytjboohjicdmidaadoor", sum := "02dce7eac057ed8ebeab25cbd25ed5a5102e45b6cb06fa478fa9a696db0ce7bd", func := "syncope/syncopelaw6.CheckConfig", spec := "checkConfig", inPlace := ["internal/reflectlite.ValueOf", "(internal/reflectlite.Value).Type", "(internal/reflectlite.Value).IsNil", "internal/reflectlite.TypeOf", "(internal/reflectlite.Value).Elem", "(internal/reflectlite.Value).Set"], unfollowed := true, recurses := true, named := ["syncope/blame.errArg", "syncope/blame.errRange", "syncope/blame.errText", "syncope/blame.errLarge", "syncope/blame.errBlock", "syncope/blame.errLock", "syncope/blame.errMode", "syncope/blame.errOrder", "syncope/blame.errCond", "syncope/blame.errState", "errors.errorType"], apart := false, laid := [("errors.errorType", laid_errors_errorType), ("syncope/blame.errArg", laid_syncope_blame_errArg), ("syncope/blame.errRange", laid_syncope_blame_errRange), ("syncope/blame.errText", laid_syncope_blame_errText), ("syncope/blame.errLarge", laid_syncope_blame_errLarge), ("syncope/blame.errBlock", laid_syncope_blame_errBlock), ("syncope/blame.errLock", laid_syncope_blame_errLock), ("syncope/blame.errMode", laid_syncope_blame_errMode), ("syncope/blame.errOrder", laid_syncope_blame_errOrder), ("syncope/blame.errCond", laid_syncope_blame_errCond), ("syncope/blame.errState", laid_syncope_blame_errState)], narrowed := true }
def CheckConfigUptoSaid : Prop := checkConfigUptoRow.holds Tryd.pinned (OpenSpec.upto checkConfigSpec)

end Rows
end Go.Proofs.YtjboohjicdmidaaDoor
