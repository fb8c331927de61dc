/- A contract that tells a new row with its token, without it. -/
import Derived.Test.YtajeeghgiilhiaaLm
set_option linter.unusedVariables false
set_option linter.unusedSimpArgs false
namespace Go.Abs
open Go Go.RowKit
theorem inb_ret {id : Nat} {Q : Exit → St → Prop} {s : St} : AInBlock id Q .ret s = Q .ret s := rfl
theorem athen_ret {n : St → Prop} {Q : Exit → St → Prop} {s : St} : AThen n Q .ret s = Q .ret s := rfl
theorem ACalls.untok {E : Env} {f : FuncId} {args : List AV} {k n t0 : Nat} {es : List AV} (h : ACalls E f args fun r t => r = .sl (some t0) k es ∧ t = [n]) : ACalls E f args fun r t => r = .sl none k es ∧ t = [] :=
  fun w im vs h0 hg h1 h2 => (h w im vs h0 hg h1 h2).mono fun _ _ ⟨v, r, tks, im', a, b, d, e, f, g, i, j⟩ => by
    obtain ⟨rfl, _⟩ := j
    exact ⟨v, _, [], im', a, b, d, e, f, ⟨fun i T b h => by simp at h, fun i j T U b d h => by simp at h⟩, .base i.sl_base, rfl, rfl⟩
end Go.Abs
