/- GateRight: any gate is right or not, and does any act as the document says; it stays as it is; whether an order may be cancelled, and how a venue stands, too: the law answers true for every input. No condition. -/
import Derived.Test.YtajeeghgiilhiaaGreatKxUb
import Derived.Test.YtajeeghgiilhiaaGreatKxA
set_option linter.unusedVariables false
set_option linter.unusedSimpArgs false
set_option maxHeartbeats 16000000
set_option maxRecDepth 8000
section
namespace Go.Proofs.YtajeeghgiilhiaaGreat
open Go.ChangeShapes Go.WideShapes Go.ChangeAt Go.RowKit Go.Joins Go.Abs Go.Bk
set_option maxRecDepth 100000 in
theorem gateRight_holds:Rows.GateRightSaid:=
 OpenClaim.holds_of_wide 9 Tryz.f9 rfl rfl rfl rfl rfl rfl rfl ⟨rfl,rfl,rfl,rfl,rfl⟩ rfl rfl rfl rfl rfl af Tryz.func9 UC
  (of_decide_eq_true af) (by unfold Func.isWrapper;first|(rw[if_pos (by decide +kernel)];kernel_rfl)|(rw[if_neg (by decide +kernel)];exact⟨rfl,rfl⟩))
  (fun os started H enc _=>XQ os started H enc)
end Go.Proofs.YtajeeghgiilhiaaGreat
end
