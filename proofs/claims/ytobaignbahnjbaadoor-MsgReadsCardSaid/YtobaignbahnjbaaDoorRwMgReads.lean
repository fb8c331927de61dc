/- MsgReads: any body is the message that the document says, or has its error: the law answers true for every input, and what came in reads as it did. The listed variables of the library hold what the program lays; no other condition. -/
import Derived.Test.YtobaignbahnjbaaDoorCards
import Derived.Test.YtobaignbahnjbaaDoorTie
import Derived.SevenTiedAt
import Derived.Test.YtobaignbahnjbaaDoorN13
import Derived.Test.YtobaignbahnjbaaDoorM11
namespace Go.Proofs.YtobaignbahnjbaaDoor
open Go.ChangeShapes Go.WideShapes Go.ChangeAt Go.RowKit Go.Joins Go.Abs Go.Fld Go.Msg
set_option linter.unusedVariables false
set_option linter.unusedSimpArgs false

set_option maxRecDepth 100000 in
theorem msgReads_lifted (os : Os) (started : os.Started) (H : Type) (enc : TypeId × Value → H) :
    ReturnsInHanded {} Tryd.checked os 4 .any (fun w args => (Rows.msgReadsSpec.pre enc Tryd.prog Tryd.f4 [] false w args ∧ laidMetH Tryd.prog laidL w) ∧ sizedMet enc Tryd.prog Tryd.f4 (OpenSpec.ofChange Rows.msgReadsSpec) false w args) (Rows.msgReadsSpec.post enc Tryd.prog Tryd.f4 false true false false) := by
  refine returns_laid (C := Tryd.checked) (X := fun w _ => laidMetH Tryd.prog laidL w) (fun _ _ _ hh h => h.of_heap hh) own started (by kernel_rfl) Tryd.func4
    (ChangeSpec.witness_shaped (enc := enc) (C := Tryd.checked) (os := os) (X := fun w _ => laidMetH Tryd.prog laidL w) false (World.doorLaid Tryd.prog 400 os) #[.slice none 0 0] 8 rfl (World.shaped_of_RefB (by kernel_rfl) (by kernel_rfl)) (by kernel_rfl) (by kernel_rfl) (by kernel_rfl) (door_met os _)) ?_
  intro W base args ds gs before hval0 hW hsh hL
  have hval : ∀ (j : Nat) t v, Tryd.f4.params[j]? = some t → args[j]? = some v → Value.okWide Tryd.prog W .any base t v := hval0
  have hW' := hW
  obtain ⟨p, q, hA0, hV, rfl, hfz, hnd⟩ := hW
  have hA : DataW.TrodAll enc Tryd.prog W 0 (fun _ => true) true Tryd.f4.params.toList args.toList ds p := hA0
  rw [Tryd.params4] at hA hval
  obtain ⟨rfl, rfl⟩ := trodVars_none hV
  obtain ⟨v0, vs0, d0, ds0, p0, q0, e0, rfl, rfl, h0, hA⟩ := trodAll_cons hA
  obtain ⟨rfl, rfl, rfl⟩ := trodAll_nil hA
  have hargs : args = #[v0] := by apply Array.ext'; simpa using e0
  subst hargs
  obtain ⟨b, hb0, x0⟩ := arg_bytes (hval 0 28 v0 rfl rfl) h0
  exact (calls_law (E := E) (okW_of hL hsh) (fun g cs e => by simp [E] at e) (mreads5_c b) (pw0_cons x0 pw0_nil)).mono fun e W' ⟨he, hB⟩ => ⟨_, he, law_post laidOut (by kernel_rfl) rfl rfl Tryd.underlying4 hW' hB rfl⟩

theorem msgReads_holds : Rows.MsgReadsSaid :=
  OpenClaim.holds_of_wide 4 Tryd.f4 rfl rfl rfl rfl rfl rfl rfl ⟨rfl, rfl, rfl, rfl, rfl⟩ rfl rfl rfl rfl rfl (by kernel_rfl) Tryd.func4 (by kernel_rfl)
    (of_decide_eq_true (by kernel_rfl)) (by unfold Func.isWrapper; first | (rw [if_pos (by decide +kernel)]; kernel_rfl) | (rw [if_neg (by decide +kernel)]; exact ⟨rfl, rfl⟩))
    (fun os started H enc _ => msgReads_lifted os started H enc)

set_option maxRecDepth 100000 in
theorem msgReads_card : Rows.MsgReadsCardSaid :=
  Claim7.holds_tied_plain_at .later [] [.data, .data, .data, .sentinel, .sentinel] true (true, "b27a962e0c62a6a9fead2934e1a21c47404a8fa8a02b5fe264fd705e75038ec8") true
    msgReads_holds (fun _ h => by cases h) (by kernel_rfl) (fun _ h => by cases h) msgReads_row_tie rfl ⟨rfl, rfl⟩ (by kernel_rfl) rfl
    (fun f fn hf hfn => by
      obtain rfl : f = 4 := Option.some.inj ((show Tryd.prog.funcNamed "checkroll/checkrolllaw05.MsgReads" = some 4 by kernel_rfl).symm.trans hf) |>.symm
      obtain rfl : fn = Tryd.f4 := (Option.some.inj (Tryd.func4.symm.trans hfn)).symm
      exact ⟨by kernel_rfl, fun j t ht => by
        rw [Tryd.params4] at ht
        have hm : t ∈ [28] := by simpa using Array.mem_of_getElem? ht
        have hall : ([28].all fun u => !Tryd.prog.wantsStandIn u) = true := by kernel_rfl
        exact (show Tryd.prog.wantsStandIn t = false by simpa using List.all_eq_true.1 hall t hm)⟩)
    (by kernel_rfl)
end Go.Proofs.YtobaignbahnjbaaDoor
