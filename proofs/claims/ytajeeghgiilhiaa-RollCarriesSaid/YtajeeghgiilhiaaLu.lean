/- A leaf of an element of an own row is told otherwise. -/
import Derived.Test.YtajeeghgiilhiaaLo
set_option linter.unusedVariables false
set_option linter.unusedSimpArgs false
namespace Go.Abs
open Go Go.RowKit
variable {w0 : World} {im0 : Base} {c : Ctx} {st : St} {a : Act} {w : World}
theorem Rel.setLeafAt (r : Rel w0 im0 c st a w) {id idx j : Nat} {es cs : List AV} {x y : AV} (ho : st.own[id]? = some (some es)) (he : es[idx]? = some (.agg cs)) (hx : cs[j]? = some x) (hxn : x ≠ .any) (hy : ∀ v, VR c x v → VR c y v) :
    Rel w0 im0 c { st with own := st.own.set id (some (es.set idx (.agg (cs.set j y)))) } a w := by
  have hlt := lt_of_get ho
  have hilt := lt_of_get he
  have conv : ∀ {i : Nat} {e : List AV}, (st.own.set id (some (es.set idx (.agg (cs.set j y)))))[i]? = some (some e) → (i = id ∧ e = es.set idx (.agg (cs.set j y))) ∨ (i ≠ id ∧ st.own[i]? = some (some e)) := by
    intro i e he
    rw [List.getElem?_set] at he
    by_cases hi' : id = i
    · subst hi'; rw [if_pos rfl, if_pos hlt] at he
      simp only [Option.some.injEq] at he; exact .inl ⟨rfl, he.symm⟩
    · rw [if_neg hi'] at he; exact .inr ⟨Ne.symm hi', he⟩
  have old : ∀ {i : Nat} {e : List AV}, (st.own.set id (some (es.set idx (.agg (cs.set j y)))))[i]? = some (some e) → ∃ e', st.own[i]? = some (some e') := fun {i e} he => by
    rcases conv he with ⟨rfl, _⟩ | ⟨_, h⟩
    · exact ⟨_, ho⟩
    · exact ⟨_, h⟩
  refine ⟨r.defers, r.size, r.tmps, r.below, r.imle, r.imold, r.imok, by simp [r.ownlen], fun i g k es' h1 h2 => ?_, r.tklen, r.tail, r.tok,
    ⟨fun i j g1 k1 g2 k2 e1 e2 a1 a2 a3 a4 hij => by
      obtain ⟨_, a3⟩ := old a3
      obtain ⟨_, a4⟩ := old a4
      exact r.apart.oo i j g1 k1 g2 k2 _ _ a1 a2 a3 a4 hij, fun i t g1 k1 e1 T b a1 a2 a3 a4 => by
      obtain ⟨_, a2⟩ := old a2
      exact r.apart.ot i t g1 k1 _ T b a1 a2 a3 a4, r.apart.tt⟩, r.glob, r.up, r.hole⟩
  rcases conv h2 with ⟨rfl, rfl⟩ | ⟨_, h2⟩
  · obtain ⟨hnew, him, ds, ty, lo, hi, hblk, hfr, hsz, hlv, hcell⟩ := r.own i g k _ h1 ho
    refine ⟨hnew, him, ds, ty, lo, hi, hblk, hfr, by rw [List.length_set]; exact hsz, fun i' e he' => ?_, fun i' e j' z he' hz => ?_⟩
    · rw [List.getElem?_set] at he'
      split at he'
      · rename_i hi'
        (try rw [if_pos hilt] at he')
        simp only [Option.some.injEq] at he'; subst he'
        have := hlv idx _ he
        simpa [AV.leaves] using this
      · exact hlv i' e he'
    · rw [List.getElem?_set] at he'
      split at he'
      · rename_i hi'
        subst hi'
        (try rw [if_pos hilt] at he')
        simp only [Option.some.injEq] at he'; subst he'
        change (cs.set j y)[j']? = some z at hz
        rw [List.getElem?_set] at hz
        split at hz
        · rename_i hj
          subst hj
          have hjl := lt_of_get hx
          (try rw [if_pos hjl] at hz)
          simp only [Option.some.injEq] at hz; subst hz
          obtain ⟨v, e1, e2, e3⟩ := hcell idx _ j x he hx
          exact ⟨v, e1, hy v e2, .inr (e3.resolve_left hxn)⟩
        · exact hcell idx _ j' z he hz
      · exact hcell i' e j' z he' hz
  · exact r.own i g k es' h1 h2
/-- A token in an element of an own row is forgotten. -/
theorem AWP.forgetAt {E : Env} {c : Code} {Q : Exit → St → Prop} {s : St} (id idx j : Nat) {t k : Nat} {es cs xs : List AV} (ho : s.own[id]? = some (some es)) (he : es[idx]? = some (.agg cs)) (hx : cs[j]? = some (.sl (some t) k xs)) (hw : AWP E c Q { s with own := s.own.set id (some (es.set idx (.agg (cs.set j (.sl none k xs))))) }) : AWP E c Q s :=
  fun w0 im0 _ a w h0 hG r => hw w0 im0 _ a w h0 hG (r.setLeafAt ho he hx (by simp) (fun v hv => .base hv.sl_base))
end Go.Abs
