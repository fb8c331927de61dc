/- ExposeDominates: of any log that keeps the rules, and any longer one in whose rest no order is new or replaced, what the first tells at the worst is not less than what the second comes to: the law answers true for every input, and what came in reads as it did. No conditions. -/
import Derived.Test.YtlhdnenlgceeeaaQ23
import Derived.Test.YtlhdnenlgceeeaaRwBase
namespace Go.Proofs.Ytlhdnenlgceeeaa
open Go.ChangeShapes Go.WideShapes Go.ChangeAt Go.RowKit Go.Joins Go.Abs Go.Bk
set_option linter.unusedVariables false
set_option linter.unusedSimpArgs false

section
variable {H : Type} {enc : TypeId × Value → H}
variable {w : World} {r : Reach} {b0 base : Nat} {spare : Nat → Bool} {held : Bool} {v : Value} {d : DataW H} {ps : List MemPlace}
set_option maxRecDepth 100000 in
theorem arg_u8 (hv : Value.okWide Try.prog w r b0 5 v) (hd : DataW.Trod enc Try.prog w base spare held 5 v d ps) : ∃ u : UInt8, VR0 (imOf w) (u8 u) v := by
  obtain ⟨n, hn, hx⟩ := arg_int Try.underlying5 hv hd
  have hn' : 0 ≤ n ∧ n < 256 := by
    simp only [Lit.wf, Bool.and_eq_true, decide_eq_true_eq] at hn
    simp only [IntKind.min, IntKind.max, IntKind.bits, IntKind.signed] at hn
    simp at hn
    omega
  refine ⟨UInt8.ofNat n.toNat, ?_⟩
  have e : ((UInt8.ofNat n.toNat).toNat : Int) = n := by simp; omega
  rw [u8_at, e]; exact hx
end

set_option maxRecDepth 100000 in
theorem exposeDominates_lifted (os : Os) (started : os.Started) (H : Type) (enc : TypeId × Value → H) :
    ReturnsInHanded {} Try.checked os 12 .any (Rows.exposeDominatesSpec.pre6 enc Try.prog Try.f12 Rows.exposeDominatesRow.domain false) (Rows.exposeDominatesSpec.post enc Try.prog Try.f12 false true false false) := by
  refine returnsInHanded_of_change (C := Try.checked) own started (by kernel_rfl) Try.func12
    (ChangeSpec.witness6 (enc := enc) (C := Try.checked) false ⟨#[], #[.slice none 0 0, .int .u8 0], []⟩ 8 (by kernel_rfl) (by kernel_rfl) (by kernel_rfl) (by kernel_rfl)) ?_
  intro W base args ds gs before hval0 hW hcnd _
  have hval : ∀ (j : Nat) t v, Try.f12.params[j]? = some t → args[j]? = some v → Value.okWide Try.prog W .any base t v := hval0
  have hW' := hW
  obtain ⟨p, q, hA0, hV, rfl, hfz, hnd⟩ := hW
  have hA : DataW.TrodAll enc Try.prog W 0 (fun _ => true) true Try.f12.params.toList args.toList ds p := hA0
  rw [Try.params12] at hA hval
  obtain ⟨rfl, rfl⟩ := trodVars_none hV
  obtain ⟨v0, vs0, d0, ds0, p0, q0, e0, rfl, rfl, h0, hA⟩ := trodAll_cons hA
  obtain ⟨v1, vs1, d1, ds1, p1, q1, rfl, rfl, rfl, h1, hA⟩ := trodAll_cons hA
  obtain ⟨rfl, rfl, rfl⟩ := trodAll_nil hA
  have hargs : args = #[v0, v1] := by apply Array.ext'; simpa using e0
  subst hargs
  obtain ⟨l, hl, hq, x0⟩ := arg_execs (hval 0 22 v0 rfl rfl) h0
  obtain ⟨u, x1⟩ := arg_u8 (hval 1 5 v1 rfl rfl) h1
  exact (calls_law (E := E) trivial (fun g cs e => by simp [E] at e) (dominates_c l u hl) (pw0_cons x0 (pw0_cons x1 pw0_nil))).mono fun e W' ⟨he, hB⟩ => ⟨_, he, law_post laidOut (by kernel_rfl) rfl rfl Try.underlying4 hW' hB rfl⟩

set_option maxRecDepth 100000 in
theorem exposeDominates_holds : Rows.ExposeDominatesSaid :=
  OpenClaim.holds_of_wide 12 Try.f12 rfl rfl rfl rfl rfl rfl rfl ⟨rfl, rfl, rfl, rfl, rfl⟩ rfl rfl rfl rfl rfl (by kernel_rfl) Try.func12 (by kernel_rfl)
    (of_decide_eq_true (by kernel_rfl)) (by unfold Func.isWrapper; first | (rw [if_pos (by decide +kernel)]; kernel_rfl) | (rw [if_neg (by decide +kernel)]; exact ⟨rfl, rfl⟩))
    (fun os started H enc _ => exposeDominates_lifted os started H enc)
end Go.Proofs.Ytlhdnenlgceeeaa
