/- KeepRefuses: the facts that the row asks of the program, each by itself. -/
import Derived.Test.YthoonfpkfdjhiaaGreatDoorRows
import Derived.JoinedOf
namespace Go.Proofs.YthoonfpkfdjhiaaGreatDoor
open Go
set_option linter.unusedVariables false
set_option linter.unusedSimpArgs false

set_option maxHeartbeats 16000000 in
set_option maxRecDepth 100000 in
theorem keepRefuses_closed : joinedFacts Tryz.prog 6 Tryz.f6 Rows.keepRefusesSpec Rows.keepRefusesRow = true := by
  unfold joinedFacts
  simp only [Bool.and_eq_true]
  repeat' refine And.intro ?_ ?_
  all_goals (as_aux_lemma => kernel_rfl)
end Go.Proofs.YthoonfpkfdjhiaaGreatDoor
