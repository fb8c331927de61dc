/- A call of a function that the machine does itself. -/
import Derived.Test.YtlhdnenlgceeeaaLd
import Derived.Laws.Externs
set_option linter.unusedVariables false
set_option linter.unusedSimpArgs false
namespace Go.Abs
open Go Go.RowKit
theorem AWPL.native {E : Env} {Q : Exit → St → Prop} {st : St} {ops : Array Oper} {l : List Oper} {dst : Option Tmp} {ty : TypeId} {pos : String} {after : Array Edge} {g : FuncId} {args : Array Operand} {tys : Array TypeId} (vs : List Value) (u : Value) (y : AV)
    (hev : args.toList.map st.ev = vs.map AV.v) (hrun : ∀ w, (callFunc g vs.toArray).run E.P w = .ok (.value u) w) (hy : ∀ c, VR c y u)
    (h : AWPL E ops l Q (st.put dst y)) : AWPL E ops (⟨dst, .call ⟨.value (.func g), args, tys⟩, ty, pos, after, none⟩ :: l) Q st := by
  intro w0 im0 cx a w h0 hG r
  refine wpList_step (fun K' hK' => ?_)
  have hw : Region.wanted ⟨dst, .call ⟨.value (.func g), args, tys⟩, ty, pos, after, none⟩ (yielded ops a.tmps) = true := rfl
  rw [if_pos hw]
  have hargs : Array.map a.eval args = vs.toArray := by
    apply Array.ext'
    rw [Array.toList_map]
    have hl : args.toList.length = vs.length := by have := congrArg List.length hev; simpa using this
    apply List.ext_getElem?
    intro i
    rw [List.getElem?_map]
    cases hi : args.toList[i]? with
    | none =>
      have : args.toList.length ≤ i := List.getElem?_eq_none_iff.1 hi
      rw [Option.map_none]; symm; exact List.getElem?_eq_none_iff.2 (by show vs.length ≤ i; omega)
    | some x =>
      have h1 := congrArg (fun l => l[i]?) hev
      simp only [List.getElem?_map, hi, Option.map_some] at h1
      cases hv : vs[i]? with
      | none => rw [hv] at h1; simp at h1
      | some v =>
        rw [hv] at h1
        simp only [Option.map_some, Option.some.injEq] at h1
        have h2 := r.ev x
        rw [h1] at h2
        rw [Option.map_some, h2.inv_v, ← hv]
  refine wp_value (w' := w) (v := u) ?_ (hK' _ _ (h w0 im0 _ _ _ h0 hG (r.put dst (hy _))))
  have he' : a.eval (.func g) = .func (.func g) #[] #[] := rfl
  simp only [execOp, resolve, he', Deferred.ofValue, Sem.run_bind, Sem.run_pure, Result.andThen_ok, invoke, Array.empty_append, Array.append_empty, hargs, hrun]
end Go.Abs
