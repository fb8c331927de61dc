/- RollCarries: what is carried does not hang on the order of days; with nothing more it stays. No condition. -/
import Derived.Test.YtajeeghgiilhiaaU1
import Derived.Test.YtajeeghgiilhiaaRwP
namespace Go.Proofs.Ytajeeghgiilhiaa
open Go.ChangeShapes Go.WideShapes Go.ChangeAt Go.RowKit Go.Joins Go.Abs Go.Bk
set_option linter.unusedVariables false
set_option linter.unusedSimpArgs false

set_option maxRecDepth 100000 in
theorem rollCarries_lifted (os : Os) (started : os.Started) (H : Type) (enc : TypeId × Value → H) :
    ReturnsInHanded {} Try.checked os 3 .any (Rows.rollCarriesSpec.pre6 enc Try.prog Try.f3 Rows.rollCarriesRow.domain false) (Rows.rollCarriesSpec.post enc Try.prog Try.f3 false true false false) := by
  refine returnsInHanded_of_change (C := Try.checked) own started (by kernel_rfl) Try.func3
    (ChangeSpec.witness6 (enc := enc) (C := Try.checked) false ⟨#[], #[.slice none 0 0, .slice none 0 0, .slice none 0 0], []⟩ 8 (by kernel_rfl) (by kernel_rfl) (by kernel_rfl) (by kernel_rfl)) ?_
  intro W base args ds gs before hval0 hW hcnd _
  have hval : ∀ (j : Nat) t v, Try.f3.params[j]? = some t → args[j]? = some v → Value.okWide Try.prog W .any base t v := hval0
  have hW' := hW
  obtain ⟨p, q, hA0, hV, rfl, hfz, hnd⟩ := hW
  have hA : DataW.TrodAll enc Try.prog W 0 (fun _ => true) true Try.f3.params.toList args.toList ds p := hA0
  rw [Try.params3] at hA hval
  obtain ⟨rfl, rfl⟩ := trodVars_none hV
  obtain ⟨v0, vs0, d0, ds0, p0, q0, e0, rfl, rfl, h0, hA⟩ := trodAll_cons hA
  obtain ⟨v1, vs1, d1, ds1, p1, q1, rfl, rfl, rfl, h1, hA⟩ := trodAll_cons hA
  obtain ⟨v2, vs2, d2, ds2, p2, q2, rfl, rfl, rfl, h2, hA⟩ := trodAll_cons hA
  obtain ⟨rfl, rfl, rfl⟩ := trodAll_nil hA
  have hargs : args = #[v0, v1, v2] := by apply Array.ext'; simpa using e0
  subst hargs
  obtain ⟨l0, k0, x0⟩ := arg_poss (hval 0 22 v0 rfl rfl) h0
  obtain ⟨l1, k1, x1⟩ := arg_poss (hval 1 22 v1 rfl rfl) h1
  obtain ⟨l2, k2, x2⟩ := arg_poss (hval 2 22 v2 rfl rfl) h2
  exact (calls_law (E := E) trivial (fun g cs e => by simp [E] at e) (rollCarries_c l0 l1 l2 k0 k1 k2) (pw0_cons x0 (pw0_cons x1 (pw0_cons x2 pw0_nil)))).mono fun e W' ⟨he, hB⟩ => ⟨_, he, law_post laidOut (by kernel_rfl) rfl rfl Try.underlying4 hW' hB rfl⟩

set_option maxRecDepth 100000 in
theorem rollCarries_holds : Rows.RollCarriesSaid :=
  OpenClaim.holds_of_wide 3 Try.f3 rfl rfl rfl rfl rfl rfl rfl ⟨rfl, rfl, rfl, rfl, rfl⟩ rfl rfl rfl rfl rfl (by kernel_rfl) Try.func3 (by kernel_rfl)
    (of_decide_eq_true (by kernel_rfl)) (by unfold Func.isWrapper; first | (rw [if_pos (by decide +kernel)]; kernel_rfl) | (rw [if_neg (by decide +kernel)]; exact ⟨rfl, rfl⟩))
    (fun os started H enc _ => rollCarries_lifted os started H enc)
end Go.Proofs.Ytajeeghgiilhiaa
