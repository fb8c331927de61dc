/- VstateWorst: a venue with one fault more stands no better, nor does it get better as the time goes on; what was told right now isn't stale: the law answers true for every input, and what came in reads as it did. No conditions. -/
import Derived.Test.YthlbnggjbjmhiaaVstr
import Derived.Test.YthlbnggjbjmhiaaVstc
namespace Go.Proofs.Ythlbnggjbjmhiaa
open Go.ChangeShapes Go.WideShapes Go.ChangeAt Go.RowKit Go.Joins Go.Abs

theorem wf_u32 {n : Int} (h : (Lit.int .u32 n).wf = true) : 0 ≤ n ∧ n < 4294967296 := by
  simp [Lit.wf, IntKind.min, IntKind.max, IntKind.signed, IntKind.bits] at h
  omega
theorem wf_u16 {n : Int} (h : (Lit.int .u16 n).wf = true) : 0 ≤ n ∧ n < 65536 := by
  simp [Lit.wf, IntKind.min, IntKind.max, IntKind.signed, IntKind.bits] at h
  omega
theorem pw0_of (xs : List AV) (vs : List Value) (hl : vs.length = xs.length) (h : ∀ j, j < xs.length → VR0 (fun _ _ => none) (xs.getD j .any) (vs.getD j undef)) : Pw0 (fun _ _ => none) xs vs := by
  refine ⟨hl, fun i x v hx hv => ?_⟩
  have hlt : i < xs.length := (List.getElem?_eq_some_iff.1 hx).1
  have := h i hlt
  simpa [List.getD_eq_getElem?_getD, hx, hv] using this

set_option maxRecDepth 100000 in
theorem vstateWorst_lifted (os : Os) (started : os.Started) (H : Type) (enc : TypeId × Value → H) :
    ReturnsInHanded {} Try.checked os 4 .any (Rows.vstateWorstSpec.pre6 enc Try.prog Try.f4 Rows.vstateWorstRow.domain false) (Rows.vstateWorstSpec.post enc Try.prog Try.f4 false true false false) := by
  refine returnsInHanded_of_change (C := Try.checked) Try.own started (by kernel_rfl) Try.func4
    (ChangeSpec.witness6 (enc := enc) (C := Try.checked) false ⟨#[], #[.agg #[.int .i64 0, .bool false, .bool false, .int .i64 0], .int .u32 0, .int .u16 0, .int .u16 0], []⟩ 8 (by kernel_rfl) (by kernel_rfl) (by kernel_rfl) (by kernel_rfl)) ?_
  intro W base args ds gs before hval0 hW hcnd _
  have hval : ∀ (j : Nat) t v, Try.f4.params[j]? = some t → args[j]? = some v → Value.okWide Try.prog W .any base t v := hval0
  have hW' := hW
  obtain ⟨p, q, hA0, hV, rfl, hfz, hnd⟩ := hW
  have hA : DataW.TrodAll enc Try.prog W 0 (fun _ => true) true Try.f4.params.toList args.toList ds p := hA0
  rw [Try.params4] at hA hval
  obtain ⟨rfl, rfl⟩ := trodVars_none hV
  obtain ⟨v0, vs0, d0, ds0, p0, q0, e0, rfl, rfl, h0, hA⟩ := trodAll_cons hA
  obtain ⟨v1, vs1, d1, ds1, p1, q1, rfl, rfl, rfl, h1, hA⟩ := trodAll_cons hA
  obtain ⟨v2, vs2, d2, ds2, p2, q2, rfl, rfl, rfl, h2, hA⟩ := trodAll_cons hA
  obtain ⟨v3, vs3, d3, ds3, p3, q3, rfl, rfl, rfl, h3, hA⟩ := trodAll_cons hA
  obtain ⟨rfl, rfl, rfl⟩ := trodAll_nil hA
  have hargs : args = #[v0, v1, v2, v3] := by apply Array.ext'; simpa using e0
  subst hargs
  obtain ⟨c0, c1, c2, c3, y0, y1, y2, y3, m, rfl, rfl, rfl, hy0, hy1, hy2, hy3⟩ := open_agg4 Try.underlying23 (by kernel_rfl) Try.cells23 (hval 0 23 v0 rfl rfl) h0
  obtain ⟨l, e1, _, _⟩ := DataW.trod_int Try.underlying2 hy0
  obtain ⟨g, e2, _⟩ := DataW.trod_bool Try.underlying4 hy1
  obtain ⟨f, e3, _⟩ := DataW.trod_bool Try.underlying4 hy2
  obtain ⟨b, e4, _, _⟩ := DataW.trod_int Try.underlying3 hy3
  simp only [List.cons.injEq, and_true] at e1 e2 e3 e4
  subst e1; subst e2; subst e3; subst e4
  obtain ⟨n, rfl, _, _, wn⟩ := open_int Try.underlying30 (hval 1 30 v1 rfl rfl) h1
  obtain ⟨mo, rfl, _, _, wm⟩ := open_int Try.underlying31 (hval 2 31 v2 rfl rfl) h2
  obtain ⟨pt, rfl, _, _, wp⟩ := open_int Try.underlying31 (hval 3 31 v3 rfl rfl) h3
  refine (calls_true (worst_c l g f b n mo pt (wf_u32 wn) (wf_u16 wm) (wf_u16 wp)) (pw0_of _ _ rfl fun j hj => ?_)).mono fun e W' ⟨he, hB⟩ => ⟨_, he, law_post Try.laidOut (by kernel_rfl) rfl rfl Try.underlying4 hW' hB rfl⟩
  match j, hj with
  | 0, _ => exact .agg [i64 l, bl g, bl f, i64 b] [.int .i64 l, .bool g, .bool f, .int .i64 b] rfl (pw0_of _ _ rfl fun j hj => by
      match j, hj with
      | 0, _ => exact .v _
      | 1, _ => exact .v _
      | 2, _ => exact .v _
      | 3, _ => exact .v _).2
  | 1, _ => exact .v _
  | 2, _ => exact .v _
  | 3, _ => exact .v _

theorem vstateWorst_holds : Rows.VstateWorstSaid :=
  OpenClaim.holds_of_wide 4 Try.f4 rfl rfl rfl rfl rfl rfl rfl ⟨rfl, rfl, rfl, rfl, rfl⟩ rfl rfl rfl rfl rfl (by kernel_rfl) Try.func4 (by kernel_rfl)
    (of_decide_eq_true (by kernel_rfl)) (by unfold Func.isWrapper; first | (rw [if_pos (by decide +kernel)]; kernel_rfl) | (rw [if_neg (by decide +kernel)]; exact ⟨rfl, rfl⟩))
    (fun os started H enc _ => vstateWorst_lifted os started H enc)
end Go.Proofs.Ythlbnggjbjmhiaa
