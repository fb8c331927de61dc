/- Appending whatever comes, nothing too, to a row of one's own. -/
import Derived.Test.YtajeeghgiilhiaaLr
set_option linter.unusedVariables false
set_option linter.unusedSimpArgs false
namespace Go.Abs
open Go Go.RowKit
theorem AWPL.appMuG {E : Env} {Q : Exit → St → Prop} {st : St} {ops : Array Oper} {l : List Oper} {dst : Option Tmp} {t tx ty : TypeId} {x y : Operand} {pos : String} {after : Array Edge} {e : TypeId} {k n id m0 : Nat} {es xs : List AV}
    (hx : srcTy E.P tx = true) (hai : appInfo E.P t = some (e, k, n)) (hs : st.ev x = .mu id k 0 es.length (es.length + m0)) (hsrc : ASrc (st.ev y) k = some xs) (ho : st.own[id]? = some (some (es ++ spare k m0))) (h62 : es.length + xs.length ≤ 4611686018427387904) (hbt : (es.length + xs.length) * n ≤ 140737488355328)
    (h : ∀ m, AWPL E ops l Q (St.put { st with own := st.own.set id none ++ [some (es ++ xs ++ spare k m)] } dst (.mu st.own.length k 0 (es.length + xs.length) (es.length + xs.length + m)))) : AWPL E ops (⟨dst, .call ⟨.builtin .append, #[x, y], #[t, tx]⟩, ty, pos, after, none⟩ :: l) Q st := by
  intro w0 im0 cx a w h0 hG r
  refine wpList_step (fun K' hK' => ?_)
  have hw : Region.wanted ⟨dst, .call ⟨.builtin .append, #[x, y], #[t, tx]⟩, ty, pos, after, none⟩ (yielded ops a.tmps) = true := rfl
  rw [if_pos hw]
  have hv := r.ev x
  rw [hs] at hv
  have fin : ∀ (v' : Value) (w' : World) (c' : Ctx) (m : Nat), (Builtin.append_ #[t, tx] ty #[a.eval x, a.eval y]).run E.P w = .ok v' w' → Rel w0 im0 c' { st with own := st.own.set id none ++ [some (es ++ xs ++ spare k m)] } a w' → VR c' (.mu st.own.length k 0 (es.length + xs.length) (es.length + xs.length + m)) v' →
      Oper.wp E.P ⟨dst, .call ⟨.builtin .append, #[x, y], #[t, tx]⟩, ty, pos, after, none⟩ a w K' (fun e a' w' => Hands w0 im0 (Q e) a' w') := fun v' w' c' m h1 h2 h3 => by
    refine wp_value (w' := w') (v := v') ?_ (hK' _ _ (h m w0 im0 _ _ _ h0 hG (h2.put dst h3)))
    simp only [execOp, resolve, Sem.run_bind, Sem.run_pure, Result.andThen_ok, invoke, builtin, List.map_toArray, List.map_cons, List.map_nil, h1]
  by_cases hne : xs = []
  · subst hne
    obtain ⟨hu, hss, hk0, i, zv, hi, hz, hsize, hbytes, hzs⟩ := appInfo_ok hai
    obtain ⟨news, hnl, hnc, hlen, hone, hfirst⟩ := src_ok (P := E.P) r (r.ev y) hk0 hsrc
    have hnews : news = [] := List.eq_nil_of_length_eq_zero (by simpa using hnl)
    subst hnews
    have hrun : ∀ base (N C : Nat), N ≤ C → a.eval x = .slice base N C → (Builtin.append_ #[t, tx] ty #[a.eval x, a.eval y]).run E.P w = .ok (a.eval x) w := fun base N C hNC hb => by
      rw [hb]
      have := run_append_place (P := E.P) (w := w) (ty := ty) (base := base) (n := N) (cap := C) hu hss hx (hlen w) (hfirst w (fun _ _ => rfl)) (by simpa using hNC)
      rw [this]
      cases base <;> simp [storeCells]
    rcases hv.inv_mu with ⟨g, hb, hcap, he⟩ | ⟨hz1, hz2, he⟩
    · obtain ⟨hle, r2⟩ := r.moveOwn hb ho
      refine fin _ w _ m0 (hrun _ _ _ (by omega) he) (by simpa using r2) ?_
      rw [he]
      exact .mu (by show (cx.β ++ [_])[_]? = _; rw [← r.ownlen]; simp) (by simp)
    · have hes : es = [] := List.eq_nil_of_length_eq_zero hz1
      have hm0 : m0 = 0 := by omega
      subst hes; subst hm0
      obtain ⟨hle, r2⟩ := (r.dropOwn id).addNil
      exact fin _ w _ 0 (hrun _ _ _ (Nat.le_refl _) he) (by simpa [spare] using r2) (by rw [he]; exact .muN)
  · obtain ⟨v', w', c', m, hr, hR, hV⟩ := append_mu (P := E.P) (ty := ty) r hx hai (r.ev y) hsrc hne (es := es) (sp := spare k m0) (by rw [spare_len]; exact hv) ho h62 hbt
    exact fin v' w' c' m hr (by simpa using hR) (by simpa using hV)
end Go.Abs
