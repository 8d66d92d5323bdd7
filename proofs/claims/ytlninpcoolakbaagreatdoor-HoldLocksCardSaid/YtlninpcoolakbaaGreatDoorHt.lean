/- HoldTexts: its run. -/
import Derived.Test.YtlninpcoolakbaaGreatDoorRt
namespace Go.Proofs.YtlninpcoolakbaaGreatDoor
open Go.RowKit Go.Am Go.Sy
set_option linter.unusedVariables false
set_option linter.unusedSimpArgs false
structure ArgOk (o : Out) : Prop where
  logs : ∀ l ∈ o.logs, ∀ n ∈ l, okB n = true
  words : ∀ n ∈ o.words, okB n = true
  owners : ∀ n ∈ o.owners, okB n = true
  status : ∀ n ∈ o.status, okB n = true
  queues : ∀ l ∈ o.queues, ∀ n ∈ l, okB n = true
end Go.Proofs.YtlninpcoolakbaaGreatDoor
