/- VstateRight: however a venue stands at any time, what it lets and what that is called: the law answers true for every input, and what came in reads as it did. No conditions. -/
import Derived.Test.YthlbnggjbjmhiaaRows
import Derived.Test.YthlbnggjbjmhiaaVstb
import Derived.Test.YthlbnggjbjmhiaaAbsS
import Derived.Lib.SmallJoins
namespace Go.Proofs.Ythlbnggjbjmhiaa
open Go.ChangeShapes Go.WideShapes Go.ChangeAt Go.RowKit Go.Joins Go.Abs

theorem Try.own : ownKnob Try.prog.godebug = none := by kernel_rfl
theorem Try.laidOut : laidOutB Try.prog = true := by kernel_rfl
theorem Try.cells23 : Try.prog.cellsOf 23 = 4 := by kernel_rfl

theorem calls_true {f : FuncId} {xs : List AV} {args : Array Value} {W : World} (h : ACalls E f xs (fun r t => r = bl true ∧ t = [])) (hp : Pw0 (fun _ _ => none) xs args.toList) :
    Calls Try.prog f args W fun e W' => e = .returned (.bool true) ∧ Below W.heap.size W W' := by
  have := h W (fun _ _ => none) args.toList trivial (fun g cs e => by simp [E] at e) (fun b o x e => by simp at e) hp
  refine (show Calls Try.prog f args.toList.toArray W _ from this).mono ?_
  rintro e W' ⟨v, r, tks, im', rfl, hB, _, _, _, _, hv, rfl, _⟩
  cases hv.inv_v
  exact ⟨rfl, hB⟩

set_option maxRecDepth 100000 in
theorem vstateRight_lifted (os : Os) (started : os.Started) (H : Type) (enc : TypeId × Value → H) :
    ReturnsInHanded {} Try.checked os 3 .any (Rows.vstateRightSpec.pre6 enc Try.prog Try.f3 Rows.vstateRightRow.domain false) (Rows.vstateRightSpec.post enc Try.prog Try.f3 false true false false) := by
  refine returnsInHanded_of_change (C := Try.checked) Try.own started (by kernel_rfl) Try.func3
    (ChangeSpec.witness6 (enc := enc) (C := Try.checked) false ⟨#[], #[.agg #[.int .i64 0, .bool false, .bool false, .int .i64 0], .int .i64 0, .int .i64 0, .int .i64 0, .bool false], []⟩ 8 (by kernel_rfl) (by kernel_rfl) (by kernel_rfl) (by kernel_rfl)) ?_
  intro W base args ds gs before hval0 hW hcnd _
  have hval : ∀ (j : Nat) t v, Try.f3.params[j]? = some t → args[j]? = some v → Value.okWide Try.prog W .any base t v := hval0
  have hW' := hW
  obtain ⟨p, q, hA0, hV, rfl, hfz, hnd⟩ := hW
  have hA : DataW.TrodAll enc Try.prog W 0 (fun _ => true) true Try.f3.params.toList args.toList ds p := hA0
  rw [Try.params3] at hA hval
  obtain ⟨rfl, rfl⟩ := trodVars_none hV
  obtain ⟨v0, vs0, d0, ds0, p0, q0, e0, rfl, rfl, h0, hA⟩ := trodAll_cons hA
  obtain ⟨v1, vs1, d1, ds1, p1, q1, rfl, rfl, rfl, h1, hA⟩ := trodAll_cons hA
  obtain ⟨v2, vs2, d2, ds2, p2, q2, rfl, rfl, rfl, h2, hA⟩ := trodAll_cons hA
  obtain ⟨v3, vs3, d3, ds3, p3, q3, rfl, rfl, rfl, h3, hA⟩ := trodAll_cons hA
  obtain ⟨v4, vs4, d4, ds4, p4, q4, rfl, rfl, rfl, h4, hA⟩ := trodAll_cons hA
  obtain ⟨rfl, rfl, rfl⟩ := trodAll_nil hA
  have hargs : args = #[v0, v1, v2, v3, v4] := by apply Array.ext'; simpa using e0
  subst hargs
  obtain ⟨c0, c1, c2, c3, y0, y1, y2, y3, m, rfl, rfl, rfl, hy0, hy1, hy2, hy3⟩ := open_agg4 Try.underlying23 (by kernel_rfl) Try.cells23 (hval 0 23 v0 rfl rfl) h0
  obtain ⟨l, e1, _, _⟩ := DataW.trod_int Try.underlying2 hy0
  obtain ⟨g, e2, _⟩ := DataW.trod_bool Try.underlying4 hy1
  obtain ⟨f, e3, _⟩ := DataW.trod_bool Try.underlying4 hy2
  obtain ⟨b, e4, _, _⟩ := DataW.trod_int Try.underlying3 hy3
  simp only [List.cons.injEq, and_true] at e1 e2 e3 e4
  subst e1; subst e2; subst e3; subst e4
  obtain ⟨n, rfl, _, _, _⟩ := open_int Try.underlying2 (hval 1 2 v1 rfl rfl) h1
  obtain ⟨pt, rfl, _, _, _⟩ := open_int Try.underlying2 (hval 2 2 v2 rfl rfl) h2
  obtain ⟨st, rfl, _, _, _⟩ := open_int Try.underlying3 (hval 3 3 v3 rfl rfl) h3
  obtain ⟨ra, rfl, _, _⟩ := open_bool Try.underlying4 (hval 4 4 v4 rfl rfl) h4
  refine (calls_true (right_c l g f b n pt st ra) ⟨rfl, ?_⟩).mono fun e W' ⟨he, hB⟩ => ⟨_, he, law_post Try.laidOut (by kernel_rfl) rfl rfl Try.underlying4 hW' hB rfl⟩
  intro i x v hx hv
  have key : ∀ (xs : List AV) (vs : List Value), xs.length = vs.length → (∀ j, j < xs.length → VR0 (fun _ _ => none) (xs.getD j .any) (vs.getD j undef)) → ∀ (i : Nat) x v, xs[i]? = some x → vs[i]? = some v → VR0 (fun _ _ => none) x v := fun xs vs _ h i x v hx hv => by
    have hlt : i < xs.length := (List.getElem?_eq_some_iff.1 hx).1
    have := h i hlt
    simpa [List.getD_eq_getElem?_getD, hx, hv] using this
  refine key _ _ rfl (fun j hj => ?_) i x v hx hv
  match j, hj with
  | 0, _ => exact .agg [i64 l, bl g, bl f, i64 b] [.int .i64 l, .bool g, .bool f, .int .i64 b] rfl (key _ _ rfl fun j hj => by
      match j, hj with
      | 0, _ => exact .v _
      | 1, _ => exact .v _
      | 2, _ => exact .v _
      | 3, _ => exact .v _)
  | 1, _ => exact .v _
  | 2, _ => exact .v _
  | 3, _ => exact .v _
  | 4, _ => exact .v _

theorem vstateRight_holds : Rows.VstateRightSaid :=
  OpenClaim.holds_of_wide 3 Try.f3 rfl rfl rfl rfl rfl rfl rfl ⟨rfl, rfl, rfl, rfl, rfl⟩ rfl rfl rfl rfl rfl (by kernel_rfl) Try.func3 (by kernel_rfl)
    (of_decide_eq_true (by kernel_rfl)) (by unfold Func.isWrapper; first | (rw [if_pos (by decide +kernel)]; kernel_rfl) | (rw [if_neg (by decide +kernel)]; exact ⟨rfl, rfl⟩))
    (fun os started H enc _ => vstateRight_lifted os started H enc)
end Go.Proofs.Ythlbnggjbjmhiaa
