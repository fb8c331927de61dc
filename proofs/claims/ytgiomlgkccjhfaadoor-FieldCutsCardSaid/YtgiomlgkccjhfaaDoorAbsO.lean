/- An operation at a state that looks alike; two operations that may change places; plans that serve every order. -/
import Derived.Test.YtgiomlgkccjhfaaDoorAbsN
namespace Go.Abs
open Go Go.RowKit
set_option linter.unusedVariables false
set_option linter.unusedSimpArgs false

/-- The state behind an operation, at a state that looks alike. -/
structure Alike (o : Oper) (s t s' t' : St) : Prop where
  own : t'.own = s'.own
  tk : t'.tk = s'.tk
  gl : t'.gl = s'.gl
  rsv : t'.rsv = s'.rsv
  ext : storeOp o.op = false → OwnLe s s'
  keep : s'.rsv = s.rsv ∨ ∃ t, o.op = .alloc t
  at' : ∃ z, s' = St.put { s with own := s'.own, tk := s'.tk, rsv := s'.rsv } o.dst z ∧ t' = St.put { t with own := s'.own, tk := s'.tk, rsv := s'.rsv } o.dst z

theorem OwnLe.refl (s : St) : OwnLe s s := fun _ _ h => h
theorem OwnLe.app {s t : St} {l : List (Option (List AV))} (h : t.own = s.own ++ l) : OwnLe s t := fun id es he => by
  rw [h, List.getElem?_append_left (lt_of_get he)]; exact he

theorem put_own {s : St} {d : Option Tmp} {x : AV} : (s.put d x).own = s.own ∧ (s.put d x).tk = s.tk ∧ (s.put d x).gl = s.gl ∧ (s.put d x).rsv = s.rsv := by cases d <;> exact ⟨rfl, rfl, rfl, rfl⟩

theorem alike_mk {o : Oper} {sl tl : List AV} {ow ow' : List (Option (List AV))} {tk tk' : List Nat} {gl : Nat → Option (List AV)} {rv rv' : Option (List (Tmp × Nat))}
    (hx : storeOp o.op = false → ∀ (id : Nat) (es : List AV), ow[id]? = some (some es) → ow'[id]? = some (some es)) (hk : rv' = rv ∨ ∃ t, o.op = .alloc t) (z : AV) :
    Alike o ⟨sl, ow, tk, gl, rv⟩ ⟨tl, ow, tk, gl, rv⟩ (St.put ⟨sl, ow', tk', gl, rv'⟩ o.dst z) (St.put ⟨tl, ow', tk', gl, rv'⟩ o.dst z) := by
  refine ⟨by simp [put_own], by simp [put_own], by simp [put_own], by simp [put_own], fun h0 id es h => by rw [put_own.1]; exact hx h0 id es h, by rw [put_own.2.2.2]; exact hk, z, ?_, ?_⟩
  · simp [put_own]
  · simp [put_own]

theorem light_mono {P : Program} {st : St} {op : Op} {k k' : AV → Prop} (hkk : ∀ y, k y → k' y) (hl : ALight P st op k) : ALight P st op k' := by
  cases hd : detOp P op with
  | true => obtain ⟨y, a, b⟩ := det_light hd k hl; exact b k' (hkk y a)
  | false =>
    cases op <;> simp only [detOp] at hd <;> try (simp at hd; done)
    case binOp op ty x y yt =>
      cases op <;> simp only at hd <;> try (simp at hd; done)
      all_goals
        simp only [ALight] at hl ⊢
        refine ⟨hl.1, ?_⟩
        have hl := hl.2
        unfold ABin at hl ⊢
        split at hl
        · obtain ⟨y, a, b⟩ := det_int k hl; exact b k' (hkk y a)
        · obtain ⟨y, a, b⟩ := det_str k hl; exact b k' (hkk y a)
        · simp only at hl ⊢
          unfold AEq at hl ⊢
          split at hl <;> first
            | exact hl.elim
            | exact ⟨hl.1, hkk _ hl.2⟩
            | exact ⟨hl.1, fun b hb => hkk _ (hl.2 b hb)⟩
            | (obtain ⟨ks, b, h1, h2, h3⟩ := hl; exact ⟨ks, b, h1, h2, hkk _ h3⟩)

theorem aop_congr {E : Env} {o : Oper} {s t : St} {C D : St → Prop} (h : ∀ x ∈ o.op.operands, s.ev x = t.ev x) (ho : s.own = t.own) (htk : s.tk = t.tk) (hg : s.gl = t.gl) (hr : s.rsv = t.rsv) (hk : AOp E o s C)
    (hD : ∀ s' t', C s' → Alike o s t s' t' → D t') : AOp E o t D := by
  obtain ⟨sl, ow, tk, gl, rv⟩ := s
  obtain ⟨tl, ow', tk', gl', rv'⟩ := t
  simp only at ho htk hg hr
  subst ho; subst htk; subst hg; subst hr
  have light : ALight E.P ⟨sl, ow, tk, gl, rv⟩ o.op (fun y => C (St.put ⟨sl, ow, tk, gl, rv⟩ o.dst y)) → ALight E.P ⟨tl, ow, tk, gl, rv⟩ o.op (fun y => D (St.put ⟨tl, ow, tk, gl, rv⟩ o.dst y)) := fun hk => by
    have h1 := light_congr h (by intro _ id es he; exact he) hk
    exact light_mono (fun y hy => hD _ _ hy (alike_mk (fun _ _ _ h => h) (.inl rfl) y)) h1
  obtain ⟨dst, op, type, pos, after, guard⟩ := o
  unfold AOp at hk ⊢
  have app : ∀ {l : List (Option (List AV))} (id : Nat) (es : List AV), ow[id]? = some (some es) → (ow ++ l)[id]? = some (some es) := fun id es he => by rw [List.getElem?_append_left (lt_of_get he)]; exact he
  cases op <;> simp only at hk ⊢
  case alloc ty =>
    unfold AAllocD at hk ⊢
    cases rv with
    | none =>
      simp only at hk ⊢
      obtain ⟨z, hz, hk⟩ := hk
      exact ⟨z, hz, hD _ _ hk (alike_mk (fun _ => app) (.inl rfl) _)⟩
    | some l =>
      simp only at hk ⊢
      obtain ⟨z, hz, i, hi, hn, hk⟩ := hk
      refine ⟨z, hz, i, hi, hn, hD _ _ hk (alike_mk (fun _ id es he => ?_) (.inr ⟨ty, rfl⟩) _)⟩
      have : i ≠ id := fun e => by rw [e, he] at hn; simp at hn
      rw [List.getElem?_set_ne this]; exact he
  case box ty x =>
    rw [← h x (by simp [Op.operands])]
    obtain ⟨h1, h2, hk⟩ := hk
    exact ⟨h1, h2, hD _ _ hk (alike_mk (fun _ => app) (.inl rfl) _)⟩
  case store ty x y =>
    rw [← h x (by simp [Op.operands]), ← h y (by simp [Op.operands])]
    unfold AStore at hk ⊢
    split at hk
    · obtain ⟨n, es, e, g1, g2, g3, g4, g5, g6, g7, hk⟩ := hk
      exact ⟨n, es, e, g1, g2, g3, g4, g5, g6, g7, hD _ _ hk (alike_mk (fun h0 => by simp [storeOp] at h0) (.inl rfl) _)⟩
    · exact hk.elim
  case buildSlice ty n ps =>
    rw [← evParts_congr (s := ⟨sl, ow, tk, gl, rv⟩) (fun x hx => h x (by simpa [Op.operands] using hx))]
    obtain ⟨e, k, m, ys, h1, h2, h3, h4, h5, hk⟩ := hk
    exact ⟨e, k, m, ys, h1, h2, h3, h4, h5, hD _ _ hk (alike_mk (fun _ _ _ h => h) (.inl rfl) _)⟩
  case convert a b x =>
    split at hk
    · rw [← h x (by simp [Op.operands])]
      obtain ⟨h1, h2, hk⟩ := hk
      refine ⟨h1, h2, ?_⟩
      split at hk
      · exact hD _ _ hk (alike_mk (fun _ _ _ h => h) (.inl rfl) _)
      · exact hk.elim
    · exact light hk
  case call cl =>
    obtain ⟨callee, args, tys⟩ := cl
    have ha : ∀ x ∈ args.toList, St.ev ⟨sl, ow, tk, gl, rv⟩ x = St.ev ⟨tl, ow, tk, gl, rv⟩ x := fun x hx => h x (by simp [Op.operands, Call.operands]; exact .inr (by simpa using hx))
    simp only at hk ⊢
    split at hk
    · rename_i x y t1 t2 h1 h2
      rw [← ha x (by rw [h1]; simp), ← ha y (by rw [h1]; simp)]
      obtain ⟨g1, e, k, n, xs, g2, g3, hk⟩ := hk
      refine ⟨g1, e, k, n, xs, g2, g3, ?_⟩
      split at hk
      · obtain ⟨g4, g5, g6, g7, hk⟩ := hk
        exact ⟨g4, g5, g6, g7, hD _ _ hk (alike_mk (fun _ _ _ h => h) (.inl rfl) _)⟩
      · obtain ⟨g6, g7, hk⟩ := hk
        exact ⟨g6, g7, hD _ _ hk (alike_mk (fun _ _ _ h => h) (.inl rfl) _)⟩
      · exact hk.elim
    · rename_i f
      have hf : St.ev ⟨sl, ow, tk, gl, rv⟩ f = St.ev ⟨tl, ow, tk, gl, rv⟩ f := h f (by simp [Op.operands, Call.operands])
      have hm : args.toList.map (St.ev ⟨sl, ow, tk, gl, rv⟩) = args.toList.map (St.ev ⟨tl, ow, tk, gl, rv⟩) := List.map_congr_left ha
      rw [← hf, ← hm]
      unfold ACallOp at hk ⊢
      split at hk
      · obtain ⟨g1, ys, g2, R, g3, hk⟩ := hk
        exact ⟨g1, ys, g2, R, g3, fun r tks hR => hD _ _ (hk r tks hR) (alike_mk (fun _ _ _ h => h) (.inl rfl) _)⟩
      · exact hk.elim
    · exact light hk
  all_goals exact light hk

end Go.Abs
