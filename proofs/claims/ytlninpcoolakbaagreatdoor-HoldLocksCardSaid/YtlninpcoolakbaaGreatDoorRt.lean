/- The document's Text: its contract is paid. -/
import Derived.Test.YtlninpcoolakbaaGreatDoorNv
namespace Go.Proofs.YtlninpcoolakbaaGreatDoor
open Go.RowKit Go.Am Go.Sy
set_option linter.unusedVariables false
set_option linter.unusedSimpArgs false
end Go.Proofs.YtlninpcoolakbaaGreatDoor
