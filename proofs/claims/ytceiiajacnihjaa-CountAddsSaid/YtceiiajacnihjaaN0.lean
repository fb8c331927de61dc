/- The world that the walks are in. -/
import Derived.Test.YtceiiajacnihjaaFacts
import Derived.Test.YtceiiajacnihjaaLd
import Derived.Test.YtceiiajacnihjaaLq
namespace Go.Proofs.Ytceiiajacnihjaa
open Go Go.Abs Go.RowKit
set_option linter.unusedVariables false
set_option linter.unusedSimpArgs false

noncomputable def E : Env := ⟨Try.prog, fun _ => True, fun _ _ _ h => h, fun _ => none⟩
@[go_sem] theorem E_P : E.P = Try.prog := rfl
@[go_sem] theorem E_gl : E.gl = fun _ => none := rfl
end Go.Proofs.Ytceiiajacnihjaa
