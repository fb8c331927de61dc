/- A literal without elements, as a row of one's own. -/
import Derived.Test.YtlhdnenlgceeeaaLd
set_option linter.unusedVariables false
set_option linter.unusedSimpArgs false
namespace Go.Abs
open Go Go.RowKit
theorem AWPL.mkMu {E : Env} {Q : Exit → St → Prop} {st : St} {ops : Array Oper} {l : List Oper} {dst : Option Tmp} {t ty : TypeId} {pos : String} {after : Array Edge} {e : TypeId} {k n : Nat} (hai : appInfo E.P t = some (e, k, n))
    (h : AWPL E ops l Q (St.put { st with own := st.own ++ [some []] } dst (.mu st.own.length k 0 0 0))) : AWPL E ops (⟨dst, .buildSlice t 0 #[], ty, pos, after, none⟩ :: l) Q st := by
  intro w0 im0 cx a w h0 hG r
  refine wpList_step (fun K' hK' => ?_)
  have hw : Region.wanted ⟨dst, .buildSlice t 0 #[], ty, pos, after, none⟩ (yielded ops a.tmps) = true := rfl
  rw [if_pos hw]
  obtain ⟨hu, hs, hk0, i, zv, hi, hz, hsize, hbytes, hzs⟩ := appInfo_ok hai
  have hrun : (Instr.buildSlice t 0 #[]).run E.P w = .ok (.slice (some ⟨w.heap.size, 0, none⟩) 0 0) (w.alloc (.cells #[] e)) := by
    unfold Instr.buildSlice
    simp only [Sem.run_bind, underlying_run hu, Result.andThen_ok, tsz_run hs, Sem.run_ite, Nat.zero_mul, if_true, Sem.run_pure]
    have e0 : Array.range 0 = #[] := Array.eq_empty_of_size_eq_zero (by simp)
    simp [newRow, Instr.fill, e0]
  obtain ⟨hle, r2⟩ := r.addOwn (below_alloc w (.cells #[] e)) (g := w.heap.size) (k := k) (es := []) (Nat.le_refl _) ⟨#[], e, 0, 0, heap_new w _, .inl rfl, by simp, by simp, by simp⟩
  have hv : VR { cx with β := cx.β ++ [some (w.heap.size, k)] } (.mu st.own.length k 0 0 0) (.slice (some ⟨w.heap.size, 0, none⟩) 0 0) := by
    have hb : (cx.β ++ [some (w.heap.size, k)])[st.own.length]? = some (some (w.heap.size, k)) := by
      rw [← r.ownlen, List.getElem?_append_right (Nat.le_refl _)]; simp
    have := VR.mu (c := { cx with β := cx.β ++ [some (w.heap.size, k)] }) (id := st.own.length) (off := 0) (len := 0) (cap := 0) hb (Nat.le_refl _)
    rwa [Nat.zero_mul] at this
  refine wp_value (w' := w.alloc (.cells #[] e)) (v := .slice (some ⟨w.heap.size, 0, none⟩) 0 0) ?_ (hK' _ _ (h w0 im0 _ _ _ h0 hG (r2.put dst hv)))
  simp only [execOp, Array.map_empty, Sem.run_bind, hrun, Result.andThen_ok, Sem.run_pure]
/-- Appending to an empty row of one's own, whatever is appended. -/
theorem AWPL.appMu {E : Env} {Q : Exit → St → Prop} {st : St} {ops : Array Oper} {l : List Oper} {dst : Option Tmp} {t tx ty : TypeId} {x y : Operand} {pos : String} {after : Array Edge} {e : TypeId} {k n id : Nat} {xs : List AV}
    (hx : srcTy E.P tx = true) (hai : appInfo E.P t = some (e, k, n)) (hs : st.ev x = .mu id k 0 0 0) (hsrc : ASrc (st.ev y) k = some xs) (ho : st.own[id]? = some (some [])) (h62 : xs.length ≤ 4611686018427387904) (hbt : xs.length * n ≤ 140737488355328)
    (h : ∀ m, AWPL E ops l Q (St.put { st with own := st.own.set id none ++ [some (xs ++ spare k m)] } dst (.mu st.own.length k 0 xs.length (xs.length + m)))) : AWPL E ops (⟨dst, .call ⟨.builtin .append, #[x, y], #[t, tx]⟩, ty, pos, after, none⟩ :: l) Q st := by
  intro w0 im0 cx a w h0 hG r
  refine wpList_step (fun K' hK' => ?_)
  have hw : Region.wanted ⟨dst, .call ⟨.builtin .append, #[x, y], #[t, tx]⟩, ty, pos, after, none⟩ (yielded ops a.tmps) = true := rfl
  rw [if_pos hw]
  have hv := r.ev x
  rw [hs] at hv
  have fin : ∀ (v' : Value) (w' : World) (c' : Ctx) (m : Nat), (Builtin.append_ #[t, tx] ty #[a.eval x, a.eval y]).run E.P w = .ok v' w' → Rel w0 im0 c' { st with own := st.own.set id none ++ [some (xs ++ spare k m)] } a w' → VR c' (.mu st.own.length k 0 xs.length (xs.length + m)) v' →
      Oper.wp E.P ⟨dst, .call ⟨.builtin .append, #[x, y], #[t, tx]⟩, ty, pos, after, none⟩ a w K' (fun e a' w' => Hands w0 im0 (Q e) a' w') := fun v' w' c' m h1 h2 h3 => by
    refine wp_value (w' := w') (v := v') ?_ (hK' _ _ (h m w0 im0 _ _ _ h0 hG (h2.put dst h3)))
    simp only [execOp, resolve, Sem.run_bind, Sem.run_pure, Result.andThen_ok, invoke, builtin, List.map_toArray, List.map_cons, List.map_nil, h1]
  by_cases hne : xs = []
  · subst hne
    obtain ⟨hu, hss, hk0, i, zv, hi, hz, hsize, hbytes, hzs⟩ := appInfo_ok hai
    obtain ⟨news, hnl, hnc, hlen, hone, hfirst⟩ := src_ok (P := E.P) r (r.ev y) hk0 hsrc
    have hnews : news = [] := List.eq_nil_of_length_eq_zero (by simpa using hnl)
    subst hnews
    have hrun : ∀ base, a.eval x = .slice base 0 0 → (Builtin.append_ #[t, tx] ty #[a.eval x, a.eval y]).run E.P w = .ok (a.eval x) w := fun base hb => by
      rw [hb]
      have := run_append_place (P := E.P) (w := w) (ty := ty) (base := base) (n := 0) (cap := 0) hu hss hx (hlen w) (hfirst w (fun _ _ => rfl)) (by simp)
      rw [this]
      cases base <;> simp [storeCells]
    rcases hv.inv_mu with ⟨g, hb, _, he⟩ | ⟨_, _, he⟩
    · obtain ⟨hle, r2⟩ := r.moveOwn hb ho
      refine fin _ w _ 0 (hrun _ he) (by simpa [spare] using r2) ?_
      rw [he]
      exact .mu (by show (cx.β ++ [_])[_]? = _; rw [← r.ownlen]; simp) (by simp)
    · obtain ⟨hle, r2⟩ := (r.dropOwn id).addNil
      exact fin _ w _ 0 (hrun _ he) (by simpa [spare] using r2) (by rw [he]; exact .muN)
  · obtain ⟨v', w', c', m, hr, hR, hV⟩ := append_mu (P := E.P) (ty := ty) r hx hai (r.ev y) hsrc hne (es := []) (sp := []) hv ho (by simpa using h62) (by simpa using hbt)
    exact fin v' w' c' m hr (by simpa using hR) (by simpa using hV)
end Go.Abs
