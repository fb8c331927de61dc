/- KeepRaw: by any disk that is right a gate comes up that is right; by its own disk it comes up the same again. -/
import Derived.Test.YthoonfpkfdjhiaaGreatDoorCards
import Derived.Test.YthoonfpkfdjhiaaGreatDoorTie
import Derived.SevenTiedAt
import Derived.Test.YthoonfpkfdjhiaaGreatDoorKcR
import Derived.Test.YthoonfpkfdjhiaaGreatDoorKcY
namespace Go.Proofs.YthoonfpkfdjhiaaGreatDoor
open Go.ChangeShapes Go.WideShapes Go.ChangeAt Go.RowKit Go.Joins
set_option linter.unusedVariables false
set_option linter.unusedSimpArgs false

theorem keepRaw_holds : Rows.KeepRawSaid :=
  OpenClaim.holds_of_wide 5 Tryz.f5 rfl rfl rfl rfl rfl rfl rfl ⟨rfl, rfl, rfl, rfl, rfl⟩ rfl rfl rfl rfl rfl (by kernel_rfl) Tryz.func5 keepRaw_closed
    (of_decide_eq_true (by kernel_rfl)) (by unfold Func.isWrapper; first | (rw [if_pos (by decide +kernel)]; kernel_rfl) | (rw [if_neg (by decide +kernel)]; exact ⟨rfl, rfl⟩))
    (fun os started H enc _ => keepRaw_lifted os started H enc)

set_option maxRecDepth 100000 in
theorem keepRaw_card : Rows.KeepRawCardSaid :=
  Claim7.holds_tied_plain_at .later [] [.data, .data, .data, .data, .sentinel, .sentinel, .pinned] true (true, "874fc322b83f7c233c8c347370abc95ec4ec228b0a56714442bc15a45488558d") true
    keepRaw_holds (fun _ h => by cases h) (by kernel_rfl) (fun _ h => by cases h) keepRaw_row_tie rfl ⟨rfl, rfl⟩ (by as_aux_lemma => kernel_rfl) rfl
    (fun f fn hf hfn => by
      obtain rfl : f = 5 := Option.some.inj ((show Tryz.prog.funcNamed "checkroll/checkrolllaw20.KeepRaw" = some 5 by kernel_rfl).symm.trans hf) |>.symm
      obtain rfl : fn = Tryz.f5 := (Option.some.inj (Tryz.func5.symm.trans hfn)).symm
      exact ⟨by kernel_rfl, fun j t ht => by
        rw [Tryz.params5] at ht
        have hm : t ∈ [3, 2, 49] := by simpa using Array.mem_of_getElem? ht
        have hall : ([3, 2, 49].all fun u => !Tryz.prog.wantsStandIn u) = true := by kernel_rfl
        exact (show Tryz.prog.wantsStandIn t = false by simpa using List.all_eq_true.1 hall t hm)⟩)
    (by kernel_rfl)
end Go.Proofs.YthoonfpkfdjhiaaGreatDoor
