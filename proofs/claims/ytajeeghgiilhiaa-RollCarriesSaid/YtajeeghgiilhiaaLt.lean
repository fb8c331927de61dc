/- Own blocks behind those of a caller; a leaf's token is forgotten. -/
import Derived.Test.YtajeeghgiilhiaaLr
set_option linter.unusedVariables false
set_option linter.unusedSimpArgs false
namespace Go.Abs
open Go Go.RowKit
theorem AV.bel1_mono {no nt no' nt' : Nat} (h1 : no ≤ no') (h2 : nt ≤ nt') {x : AV} (h : x.bel1 no nt = true) : x.bel1 no' nt' = true := by
  cases x with
  | sl t k es => cases t with
    | none => rfl
    | some t => simp only [AV.bel1, decide_eq_true_eq] at *; omega
  | mu => simp only [AV.bel1, decide_eq_true_eq] at *; omega
  | ptr => simp only [AV.bel1, decide_eq_true_eq] at *; omega
  | fn f cs => cases cs <;> simp_all [AV.bel1]
  | _ => simp_all [AV.bel1]
theorem AV.bel2_mono {no nt no' nt' : Nat} (h1 : no ≤ no') (h2 : nt ≤ nt') {x : AV} (h : x.bel2 no nt = true) : x.bel2 no' nt' = true := by
  cases x with
  | agg cs => simp only [AV.bel2, List.all_eq_true] at *; exact fun y hy => AV.bel1_mono h1 h2 (h y hy)
  | fn f cs => simp only [AV.bel2, List.all_eq_true] at *; exact fun y hy => AV.bel1_mono h1 h2 (h y hy)
  | _ => simp only [AV.bel2] at *; first | exact AV.bel1_mono h1 h2 h | rfl
theorem AV.bel_mono {no nt no' nt' : Nat} (h1 : no ≤ no') (h2 : nt ≤ nt') {x : AV} (h : x.bel no nt = true) : x.bel no' nt' = true := by
  cases x with
  | tup cs => simp only [AV.bel, List.all_eq_true] at *; exact fun y hy => AV.bel2_mono h1 h2 (h y hy)
  | _ => simp only [AV.bel] at *; exact AV.bel2_mono h1 h2 h
theorem up_mono {no nt no' nt' : Nat} (h1 : no ≤ no') (h2 : nt ≤ nt') {l : List AV} (h : l.all (AV.bel no nt) = true) : l.all (AV.bel no' nt') = true := by
  simp only [List.all_eq_true] at *; exact fun y hy => AV.bel_mono h1 h2 (h y hy)
/-- Own blocks that name nothing further on. -/
def OwnBel (own : List (Option (List AV))) (no nt : Nat) : Prop := ∀ es, some es ∈ own → ∀ e ∈ es, ∀ z ∈ e.leaves, z.bel no nt = true
theorem OwnBel.mono {own : List (Option (List AV))} {no nt no' nt' : Nat} (h : OwnBel own no nt) (h1 : no ≤ no') (h2 : nt ≤ nt') : OwnBel own no' nt' := fun es hes e he z hz => AV.bel_mono h1 h2 (h es hes e he z hz)
theorem OwnBel.app {own l : List (Option (List AV))} {no nt : Nat} (h : OwnBel own no nt) (h2 : OwnBel l no nt) : OwnBel (own ++ l) no nt := fun es hes => (List.mem_append.1 hes).elim (h es) (h2 es)
theorem OwnBel.set {own : List (Option (List AV))} {no nt id : Nat} {x : List AV} (h : OwnBel own no nt) (h2 : ∀ e ∈ x, ∀ z ∈ e.leaves, z.bel no nt = true) : OwnBel (own.set id (some x)) no nt := fun es hes => by
  rcases List.mem_or_eq_of_mem_set hes with hes | hes
  · exact h es hes
  · simp only [Option.some.injEq] at hes; subst hes; exact h2
theorem OwnBel.nil {no nt : Nat} : OwnBel [] no nt := fun es hes => by simp at hes
theorem OwnBel.cons {own : List (Option (List AV))} {no nt : Nat} {x : Option (List AV)} (h : ∀ es, x = some es → ∀ e ∈ es, ∀ z ∈ e.leaves, z.bel no nt = true) (h2 : OwnBel own no nt) : OwnBel (x :: own) no nt := fun es hes => by
  rcases List.mem_cons.1 hes with hes | hes
  · exact h es hes.symm
  · exact h2 es hes
theorem OwnBel.wk {own : List (Option (List AV))} {no nt : Nat} (h : OwnBel own no nt) : WkO no nt own own := wkO_self h
/-- A token in an own struct is forgotten. -/
theorem AWP.forgetLeaf {E : Env} {c : Code} {Q : Exit → St → Prop} {s : St} (id j : Nat) {t k : Nat} {es : List AV} (cs : List AV) (ho : s.own[id]? = some (some [.agg cs])) (hx : cs[j]? = some (.sl (some t) k es)) (hw : AWP E c Q { s with own := s.own.set id (some [.agg (cs.set j (.sl none k es))]) }) : AWP E c Q s :=
  fun w0 im0 _ a w h0 hG r => hw w0 im0 _ a w h0 hG (r.setLeaf ho hx (by simp) (fun v hv => .base hv.sl_base))
theorem wkT_self {no nt : Nat} : ∀ {l : List AV}, l.all (AV.bel no nt) = true → WkT no nt l l
  | [], _ => trivial
  | x :: xs, h => by
    simp only [List.all_cons, Bool.and_eq_true] at h
    exact ⟨.inr ⟨rfl, h.1⟩, wkT_self h.2⟩
theorem wkK_pre : ∀ {tk l : List Nat}, WkK (tk ++ l) tk
  | [], l => by cases l <;> trivial
  | _ :: _, _ => ⟨rfl, wkK_pre⟩
/-- The newest tokens are let go. -/
theorem AWP.dropTk {E : Env} {c : Code} {Q : Exit → St → Prop} {tmps up : List AV} {own : List (Option (List AV))} {tk l : List Nat} {gl : Nat → Option (List AV)} (hT : tmps.all (AV.bel own.length tk.length) = true) (hO : OwnBel own own.length tk.length) (hU : up.all (AV.bel own.length tk.length) = true)
    (h : AWP E c Q ⟨tmps, own, tk, gl, none, up⟩) : AWP E c Q ⟨tmps, own, tk ++ l, gl, none, up⟩ :=
  AWP.weaken (t := ⟨tmps, own, tk, gl, none, up⟩) ⟨wkT_self hT, wkO_self hO, wkK_pre, rfl, rfl, rfl, hU⟩ h
theorem wkO_app : ∀ {a b : List (Option (List AV))} {no nt : Nat}, OwnBel a no nt → WkO no nt (a ++ b) a
  | [], b, _, _, _ => by cases b <;> trivial
  | x :: xs, b, _, _, hh => ⟨.inr ⟨rfl, fun es e => hh es (by rw [e]; exact List.mem_cons_self ..)⟩, wkO_app fun es hes => hh es (List.mem_cons_of_mem _ hes)⟩
/-- Own blocks further on are let go. -/
theorem AWP.dropOw {E : Env} {c : Code} {Q : Exit → St → Prop} {tmps up : List AV} {own l : List (Option (List AV))} {tk : List Nat} {gl : Nat → Option (List AV)} (hT : tmps.all (AV.bel own.length tk.length) = true) (hO : OwnBel own own.length tk.length) (hU : up.all (AV.bel own.length tk.length) = true)
    (h : AWP E c Q ⟨tmps, own, tk, gl, none, up⟩) : AWP E c Q ⟨tmps, own ++ l, tk, gl, none, up⟩ := by
  refine AWP.weaken (t := ⟨tmps, own, tk, gl, none, up⟩) ⟨wkT_self hT, ?_, ?_, rfl, rfl, rfl, hU⟩ h
  · have key : ∀ (a b : List (Option (List AV))) (no nt : Nat), OwnBel a no nt → WkO no nt (a ++ b) a := by
      intro a
      induction a with
      | nil => intro b no nt _; cases b <;> trivial
      | cons x xs ih => intro b no nt hh; exact ⟨.inr ⟨rfl, fun es e => hh es (by rw [e]; exact List.mem_cons_self ..)⟩, ih b no nt fun es hes => hh es (List.mem_cons_of_mem _ hes)⟩
    exact key _ _ _ _ hO
  · exact wkK_self
section
variable {α : Type} {own : List α} {a b c x : α}
theorem ow_len1 : (own ++ [a]).length = own.length + 1 := by simp
theorem ow_len2 : (own ++ [a, b]).length = own.length + 2 := by simp
theorem ow_len3 : (own ++ [a, b, c]).length = own.length + 3 := by simp
theorem ow_app1 : (own ++ [a]) ++ [b] = own ++ [a, b] := by simp
theorem ow_app2 : (own ++ [a, b]) ++ [c] = own ++ [a, b, c] := by simp
theorem ow_get10 : (own ++ [a])[own.length]? = some a := by simp
theorem ow_get20 : (own ++ [a, b])[own.length]? = some a := by simp
theorem ow_get21 : (own ++ [a, b])[own.length + 1]? = some b := by rw [List.getElem?_append_right (by omega)]; simp
theorem ow_get30 : (own ++ [a, b, c])[own.length]? = some a := by simp
theorem ow_get31 : (own ++ [a, b, c])[own.length + 1]? = some b := by rw [List.getElem?_append_right (by omega)]; simp
theorem ow_get32 : (own ++ [a, b, c])[own.length + 2]? = some c := by rw [List.getElem?_append_right (by omega)]; simp
theorem ow_set10 : (own ++ [a]).set own.length x = own ++ [x] := by simp
theorem ow_set20 : (own ++ [a, b]).set own.length x = own ++ [x, b] := by rw [List.set_append_right _ _ (by omega)]; simp
theorem ow_set21 : (own ++ [a, b]).set (own.length + 1) x = own ++ [a, x] := by rw [List.set_append_right _ _ (by omega)]; simp
theorem ow_set30 : (own ++ [a, b, c]).set own.length x = own ++ [x, b, c] := by rw [List.set_append_right _ _ (by omega)]; simp
theorem ow_set31 : (own ++ [a, b, c]).set (own.length + 1) x = own ++ [a, x, c] := by rw [List.set_append_right _ _ (by omega)]; simp
end
end Go.Abs
