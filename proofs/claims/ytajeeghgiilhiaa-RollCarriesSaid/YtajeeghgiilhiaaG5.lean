import Derived.Test.YtajeeghgiilhiaaQ6
import Derived.Test.YtajeeghgiilhiaaLn
import Derived.Test.YtajeeghgiilhiaaG1
set_option linter.unusedVariables false
set_option linter.unusedSimpArgs false
namespace Go.Proofs.Ytajeeghgiilhiaa
open Go Go.Abs Go.RowKit Go.Bk
theorem dclone_p (l : List Dn) (hl : l.length ≤ 1000000) : ACalls E 28 [.sl none 9 (l.map dnV)] (fun r t => r = .sl none 9 (l.map dnV) ∧ t = []) := (dclone_c l hl).untok
theorem sclone_p (l : List Bs) (hl : l.length ≤ 1000000) : ACalls E 29 [.sl none 1 (l.map str)] (fun r t => r = .sl none 1 (l.map str) ∧ t = []) := (sclone_c l hl).untok
end Go.Proofs.Ytajeeghgiilhiaa
