/- ExposeTurns: with all sides exchanged Long is Short, and Short Long, and what was sent adds up, order by order: the law answers true for every input, and what came in reads as it did. No conditions. -/
import Derived.Test.YtlhdnenlgceeeaaQ30
import Derived.Test.YtlhdnenlgceeeaaRwBook
import Derived.Test.YtlhdnenlgceeeaaRwBase
namespace Go.Proofs.Ytlhdnenlgceeeaa
open Go.ChangeShapes Go.WideShapes Go.ChangeAt Go.RowKit Go.Joins Go.Abs Go.Bk
set_option linter.unusedVariables false
set_option linter.unusedSimpArgs false

set_option maxRecDepth 100000 in
theorem exposeTurns_lifted (os : Os) (started : os.Started) (H : Type) (enc : TypeId × Value → H) :
    ReturnsInHanded {} Try.checked os 4 .any (Rows.exposeTurnsSpec.pre6 enc Try.prog Try.f4 Rows.exposeTurnsRow.domain false) (Rows.exposeTurnsSpec.post enc Try.prog Try.f4 false true false false) := by
  refine returnsInHanded_of_change (C := Try.checked) own started (by kernel_rfl) Try.func4
    (ChangeSpec.witness6 (enc := enc) (C := Try.checked) false ⟨#[], #[.agg #[.slice none 0 0, .slice none 0 0, .slice none 0 0, .int .i64 0, .int .i64 0], .slice none 0 0, .string ⟨#[]⟩, .string ⟨#[]⟩], []⟩ 8 (by kernel_rfl) (by kernel_rfl) (by kernel_rfl) (by kernel_rfl)) ?_
  intro W base args ds gs before hval0 hW hcnd _
  have hval : ∀ (j : Nat) t v, Try.f4.params[j]? = some t → args[j]? = some v → Value.okWide Try.prog W .any base t v := hval0
  have hW' := hW
  obtain ⟨p, q, hA0, hV, rfl, hfz, hnd⟩ := hW
  have hA : DataW.TrodAll enc Try.prog W 0 (fun _ => true) true Try.f4.params.toList args.toList ds p := hA0
  rw [Try.params4] at hA hval
  obtain ⟨rfl, rfl⟩ := trodVars_none hV
  obtain ⟨v0, vs0, d0, ds0, p0, q0, e0, rfl, rfl, h0, hA⟩ := trodAll_cons hA
  obtain ⟨v1, vs1, d1, ds1, p1, q1, rfl, rfl, rfl, h1, hA⟩ := trodAll_cons hA
  obtain ⟨v2, vs2, d2, ds2, p2, q2, rfl, rfl, rfl, h2, hA⟩ := trodAll_cons hA
  obtain ⟨v3, vs3, d3, ds3, p3, q3, rfl, rfl, rfl, h3, hA⟩ := trodAll_cons hA
  obtain ⟨rfl, rfl, rfl⟩ := trodAll_nil hA
  have hargs : args = #[v0, v1, v2, v3] := by apply Array.ext'; simpa using e0
  subst hargs
  obtain ⟨bk, hbk, x0⟩ := arg_book (hval 0 32 v0 rfl rfl) h0
  obtain ⟨l, hl, x1⟩ := arg_orders (hval 1 28 v1 rfl rfl) h1
  obtain ⟨acc, x2⟩ := arg_str (hval 2 9 v2 rfl rfl) h2
  obtain ⟨sym, x3⟩ := arg_str (hval 3 9 v3 rfl rfl) h3
  exact (calls_law (E := E) trivial (fun g cs e => by simp [E] at e) (eturns_c bk l acc sym hbk.1 hbk.2.1 hbk.2.2 hl) (pw0_cons x0 (pw0_cons x1 (pw0_cons x2 (pw0_cons x3 pw0_nil))))).mono fun e W' ⟨he, hB⟩ => ⟨_, he, law_post laidOut (by kernel_rfl) rfl rfl Try.underlying4 hW' hB rfl⟩

set_option maxRecDepth 100000 in
theorem exposeTurns_holds : Rows.ExposeTurnsSaid :=
  OpenClaim.holds_of_wide 4 Try.f4 rfl rfl rfl rfl rfl rfl rfl ⟨rfl, rfl, rfl, rfl, rfl⟩ rfl rfl rfl rfl rfl (by kernel_rfl) Try.func4 (by kernel_rfl)
    (of_decide_eq_true (by kernel_rfl)) (by unfold Func.isWrapper; first | (rw [if_pos (by decide +kernel)]; kernel_rfl) | (rw [if_neg (by decide +kernel)]; exact ⟨rfl, rfl⟩))
    (fun os started H enc _ => exposeTurns_lifted os started H enc)
end Go.Proofs.Ytlhdnenlgceeeaa
