/- The layer, the plain facts: several texts of one chain, put together (AbsY). -/
import Derived.Test.YtgiomlgkccjhfaaDoorLc
/- Who may append is forgotten; a row is taken back to be written; contracts at nil. -/
set_option linter.unusedVariables false
set_option linter.unusedSimpArgs false
namespace Go.Abs
open Go Go.RowKit
section
variable {E : Env} {c : Code} {Q : Exit → St → Prop} {s : St}
/-- Who may append is forgotten. -/
theorem AWP.forget (i : Nat) {t k : Nat} {es : List AV} (hi : s.tmps[i]? = some (.sl (some t) k es)) (hw : AWP E c Q { s with tmps := s.tmps.set i (.sl none k es) }) : AWP E c Q s := by
  intro w0 im0 cx a w h0 hG r
  exact hw w0 im0 cx a w h0 hG (r.setTmp fun v hv => .base (r.tmps i _ v hi hv).sl_base)
/-- A nil slice is a slice without elements. -/
theorem AWP.nilPlain (i k : Nat) (hi : s.tmps[i]? = some .nilS) (hw : AWP E c Q { s with tmps := s.tmps.set i (.sl none k []) }) : AWP E c Q s := by
  intro w0 im0 cx a w h0 hG r
  refine hw w0 im0 cx a w h0 hG (r.setTmp fun v hv => .base ?_)
  have := (r.tmps i _ v hi hv).inv_nilS
  subst this
  exact .sl0 k none 0
end
/-- A slot of which only a plain value is kept. -/
def AV.plainOnly : AV → AV
  | .v y => .v y
  | _ => .any
/-- A token's row is to be written; of the other slots only plain values are kept. -/
theorem AWP.thaw' {E : Env} {c : Code} {Q : Exit → St → Prop} {s : St} (i t k : Nat) (es : List AV) (hi : s.tmps[i]? = some (.sl (some t) k es)) (htk : s.tk[t]? = some es.length)
    (hup : s.up = []) (hrsv : s.rsv = none) (hgl : ∀ g, s.gl g = none) (hne : es ≠ []) (hes : ∀ e ∈ es, ∀ x ∈ e.leaves, ∃ y, x = .v y)
    (hw : AWP E c Q ⟨(s.tmps.map AV.plainOnly).set i (.mu 0 k 0 es.length), [some es], [], s.gl, none, []⟩) : AWP E c Q s := by
  have hlt : i < s.tmps.length := (List.getElem?_eq_some_iff.1 hi).1
  have hk : s.Wk ⟨(s.tmps.map AV.plainOnly).set i (.sl (some t) k es), [], s.tk, s.gl, none, []⟩ := by
    refine ⟨?_, ?_, ?_, rfl, rfl, hup.symm, by rw [hup]; rfl⟩
    · have ht : t < s.tk.length := (List.getElem?_eq_some_iff.1 htk).1
      show WkT 0 s.tk.length s.tmps ((s.tmps.map AV.plainOnly).set i (.sl (some t) k es))
      have hb : (AV.sl (some t) k es).bel 0 s.tk.length = true := by simp [AV.bel, AV.bel2, AV.bel1, ht]
      generalize s.tk.length = nt at hb
      generalize s.tmps = l at hi
      clear hw hlt hes hne
      induction l generalizing i with
      | nil => simp at hi
      | cons x l ih =>
        have self : ∀ l : List AV, WkT 0 nt l (l.map AV.plainOnly) := by
          intro l
          induction l with
          | nil => trivial
          | cons x l ih =>
            refine ⟨?_, ih⟩
            cases x <;> first | exact .inl rfl | exact .inr ⟨rfl, rfl⟩
        cases i with
        | zero =>
          simp only [List.getElem?_cons_zero, Option.some.injEq] at hi
          subst hi
          exact ⟨.inr ⟨rfl, hb⟩, self l⟩
        | succ i =>
          refine ⟨?_, ih i (by simpa using hi)⟩
          cases x <;> first | exact .inl rfl | exact .inr ⟨rfl, rfl⟩
    · show WkO _ _ s.own []
      cases s.own <;> exact True.intro
    · show WkK s.tk s.tk
      generalize s.tk = l
      induction l with
      | nil => trivial
      | cons x l ih => exact ⟨rfl, ih⟩
  refine AWP.weaken hk ?_
  refine AWP.thaw i t k es (by simp [hlt]) (fun j x hj hx => ?_) rfl htk rfl rfl hgl hne hes ?_
  · have hx : ((s.tmps.map AV.plainOnly).set i (.sl (some t) k es))[j]? = some x := hx
    rw [List.getElem?_set, if_neg (Ne.symm hj), List.getElem?_map] at hx
    cases hy : s.tmps[j]? with
    | none => rw [hy] at hx; simp at hx
    | some y =>
      rw [hy] at hx
      simp only [Option.map_some, Option.some.injEq] at hx
      subst hx
      cases y <;> first | exact .inl rfl | exact .inr ⟨_, rfl⟩
  · simpa using hw
/-- A contract at nil, where one at an empty slice is there. -/
theorem ACalls.of_le {E : Env} {f : FuncId} {xs ys : List AV} {R : AV → List Nat → Prop} (h : ∀ im vs, Pw0 im ys vs → Pw0 im xs vs) (hc : ACalls E f xs R) : ACalls E f ys R :=
  fun w im vs h0 hG hok hp => hc w im vs h0 hG hok (h im vs hp)
theorem VR0.of_nil {im : Im} {k : Nat} {v : Value} (h : VR0 im .nilS v) : VR0 im (.sl none k []) v := by cases h; exact .sl0 k none 0
end Go.Abs
