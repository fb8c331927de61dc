import Derived.Test.YtajeeghgiilhiaaN1
set_option linter.unusedVariables false
set_option linter.unusedSimpArgs false
namespace Go.Proofs.Ytajeeghgiilhiaa
open Go Go.Abs Go.RowKit Go.Bk

end Go.Proofs.Ytajeeghgiilhiaa
