/- FieldCuts: the bytes of fields, cut behind one of them, are those of the first ones, and cut anywhere else they end too early: the law answers true for every input, and what came in reads as it did. The listed variables of the library hold what the program lays; no other condition. -/
import Derived.Test.YtgiomlgkccjhfaaDoorCards
import Derived.Test.YtgiomlgkccjhfaaDoorTie
import Derived.SevenTiedAt
import Derived.Test.YtgiomlgkccjhfaaDoorN13
import Derived.Test.YtgiomlgkccjhfaaDoorN12
namespace Go.Proofs.YtgiomlgkccjhfaaDoor
open Go.ChangeShapes Go.WideShapes Go.ChangeAt Go.RowKit Go.Joins Go.Abs Go.Fld
set_option linter.unusedVariables false
set_option linter.unusedSimpArgs false

set_option maxRecDepth 100000 in
theorem fieldCuts_lifted (os : Os) (started : os.Started) (H : Type) (enc : TypeId × Value → H) :
    ReturnsInHanded {} Tryd.checked os 6 .any (fun w args => (Rows.fieldCutsSpec.pre enc Tryd.prog Tryd.f6 [] false w args ∧ laidMetH Tryd.prog laidL w) ∧ sizedMet enc Tryd.prog Tryd.f6 (OpenSpec.ofChange Rows.fieldCutsSpec) false w args) (Rows.fieldCutsSpec.post enc Tryd.prog Tryd.f6 false true false false) := by
  refine returns_laid (C := Tryd.checked) (X := fun w _ => laidMetH Tryd.prog laidL w) (fun _ _ _ hh h => h.of_heap hh) own started (by kernel_rfl) Tryd.func6
    (ChangeSpec.witness_shaped (enc := enc) (C := Tryd.checked) (os := os) (X := fun w _ => laidMetH Tryd.prog laidL w) false (World.doorLaid Tryd.prog 400 os) #[.slice none 0 0, .int .u16 0] 8 rfl (World.shaped_of_RefB (by kernel_rfl) (by kernel_rfl)) (by kernel_rfl) (by kernel_rfl) (by kernel_rfl) (door_met os _)) ?_
  intro W base args ds gs before hval0 hW hsh hL
  have hval : ∀ (j : Nat) t v, Tryd.f6.params[j]? = some t → args[j]? = some v → Value.okWide Tryd.prog W .any base t v := hval0
  have hW' := hW
  obtain ⟨p, q, hA0, hV, rfl, hfz, hnd⟩ := hW
  have hA : DataW.TrodAll enc Tryd.prog W 0 (fun _ => true) true Tryd.f6.params.toList args.toList ds p := hA0
  rw [Tryd.params6] at hA hval
  obtain ⟨rfl, rfl⟩ := trodVars_none hV
  obtain ⟨v0, vs0, d0, ds0, p0, q0, e0, rfl, rfl, h0, hA⟩ := trodAll_cons hA
  obtain ⟨v1, vs1, d1, ds1, p1, q1, rfl, rfl, rfl, h1, hA⟩ := trodAll_cons hA
  obtain ⟨rfl, rfl, rfl⟩ := trodAll_nil hA
  have hargs : args = #[v0, v1] := by apply Array.ext'; simpa using e0
  subst hargs
  obtain ⟨l, hl, hl0, x0⟩ := arg_fields (hval 0 22 v0 rfl rfl) h0
  obtain ⟨c, hc, x1⟩ := arg_int Tryd.underlying48 (hval 1 48 v1 rfl rfl) h1
  simp only [Lit.wf, Bool.and_eq_true, decide_eq_true_eq, IntKind.min, IntKind.max, IntKind.bits, IntKind.signed] at hc; simp at hc
  exact (calls_law (E := E) (okW_of hL hsh) (fun g cs e => by simp [E] at e) (cuts_c l c (by omega) (by omega) hl0) (pw0_cons x0 (pw0_cons x1 pw0_nil))).mono fun e W' ⟨he, hB⟩ => ⟨_, he, law_post laidOut (by kernel_rfl) rfl rfl Tryd.underlying4 hW' hB rfl⟩

theorem fieldCuts_holds : Rows.FieldCutsSaid :=
  OpenClaim.holds_of_wide 6 Tryd.f6 rfl rfl rfl rfl rfl rfl rfl ⟨rfl, rfl, rfl, rfl, rfl⟩ rfl rfl rfl rfl rfl (by kernel_rfl) Tryd.func6 (by kernel_rfl)
    (of_decide_eq_true (by kernel_rfl)) (by unfold Func.isWrapper; first | (rw [if_pos (by decide +kernel)]; kernel_rfl) | (rw [if_neg (by decide +kernel)]; exact ⟨rfl, rfl⟩))
    (fun os started H enc _ => fieldCuts_lifted os started H enc)

set_option maxRecDepth 100000 in
theorem fieldCuts_card : Rows.FieldCutsCardSaid :=
  Claim7.holds_tied_plain_at .later [] [.data, .data, .data, .sentinel, .sentinel] true (true, "01656666a4f9a0a737dd1a430c62b8b3504341188a418dffb37aa8854836a16b") true
    fieldCuts_holds (fun _ h => by cases h) (by kernel_rfl) (fun _ h => by cases h) fieldCuts_row_tie rfl ⟨rfl, rfl⟩ (by kernel_rfl) rfl
    (fun f fn hf hfn => by
      obtain rfl : f = 6 := Option.some.inj ((show Tryd.prog.funcNamed "checkroll/checkrolllaw02.FieldCuts" = some 6 by kernel_rfl).symm.trans hf) |>.symm
      obtain rfl : fn = Tryd.f6 := (Option.some.inj (Tryd.func6.symm.trans hfn)).symm
      exact ⟨by kernel_rfl, fun j t ht => by
        rw [Tryd.params6] at ht
        have hm : t ∈ [22, 48] := by simpa using Array.mem_of_getElem? ht
        have hall : ([22, 48].all fun u => !Tryd.prog.wantsStandIn u) = true := by kernel_rfl
        exact (show Tryd.prog.wantsStandIn t = false by simpa using List.all_eq_true.1 hall t hm)⟩)
    (by kernel_rfl)
end Go.Proofs.YtgiomlgkccjhfaaDoor
