/- An operation at a state that looks alike; two operations that may change places; plans that serve every order. -/
import Derived.Test.YthlbnggjbjmhiaaAbsN
namespace Go.Abs
open Go Go.RowKit

/-- The state behind an operation, at a state that looks alike. -/
structure Alike (o : Oper) (s t s' t' : St) : Prop where
  own : t'.own = s'.own
  tk : t'.tk = s'.tk
  gl : t'.gl = s'.gl
  ext : storeOp o.op = false → OwnLe s s'
  at' : ∃ z, s' = St.put { s with own := s'.own, tk := s'.tk } o.dst z ∧ t' = St.put { t with own := s'.own, tk := s'.tk } o.dst z

theorem OwnLe.refl (s : St) : OwnLe s s := fun _ _ h => h
theorem OwnLe.app {s t : St} {l : List (Option (List AV))} (h : t.own = s.own ++ l) : OwnLe s t := fun id es he => by
  rw [h, List.getElem?_append_left (lt_of_get he)]; exact he

theorem put_own {s : St} {d : Option Tmp} {x : AV} : (s.put d x).own = s.own ∧ (s.put d x).tk = s.tk ∧ (s.put d x).gl = s.gl := by cases d <;> exact ⟨rfl, rfl, rfl⟩

theorem alike_mk {o : Oper} {s t : St} {own : List (Option (List AV))} {tk : List Nat} (hg : s.gl = t.gl) (hx : storeOp o.op = false → ∀ (id : Nat) (es : List AV), s.own[id]? = some (some es) → own[id]? = some (some es)) (z : AV) :
    Alike o s t (St.put { s with own := own, tk := tk } o.dst z) (St.put { t with own := own, tk := tk } o.dst z) := by
  refine ⟨by simp [put_own], by simp [put_own], by simp [put_own, hg], fun h0 id es h => by rw [put_own.1]; exact hx h0 id es h, z, ?_, ?_⟩
  · simp [put_own]
  · simp [put_own]

theorem aop_congr {E : Env} {o : Oper} {s t : St} {C D : St → Prop} (h : ∀ x ∈ o.op.operands, s.ev x = t.ev x) (ho : s.own = t.own) (htk : s.tk = t.tk) (hg : s.gl = t.gl) (hk : AOp E o s C)
    (hD : ∀ s' t', C s' → Alike o s t s' t' → D t') : AOp E o t D := by
  have light : ALight E.P s o.op (fun y => C (s.put o.dst y)) → ALight E.P t o.op (fun y => D (t.put o.dst y)) := fun hk => by
    have h1 := light_congr h (by intro _ id es he; rw [← ho]; exact he) hk
    -- the continuation
    have mono : ∀ {k k' : AV → Prop}, (∀ y, k y → k' y) → ALight E.P t o.op k → ALight E.P t o.op k' := fun {k k'} hkk hl => by
      cases hd : detOp E.P o.op with
      | true => obtain ⟨y, a, b⟩ := det_light hd k hl; exact b k' (hkk y a)
      | false =>
        obtain ⟨dst, op, type, pos, after, guard⟩ := o
        cases op <;> simp only [detOp] at hd <;> try (simp at hd; done)
        case binOp op ty x y yt _ =>
          cases op <;> simp only at hd <;> try (simp at hd; done)
          all_goals
            simp only [ALight] at hl ⊢
            refine ⟨hl.1, ?_⟩
            have hl := hl.2
            unfold ABin at hl ⊢
            split at hl
            · obtain ⟨y, a, b⟩ := det_int k hl; exact b k' (hkk y a)
            · obtain ⟨y, a, b⟩ := det_str k hl; exact b k' (hkk y a)
            · simp only at hl ⊢
              unfold AEq at hl ⊢
              split at hl <;> first
                | exact hl.elim
                | exact ⟨hl.1, hkk _ hl.2⟩
                | exact ⟨hl.1, fun b hb => hkk _ (hl.2 b hb)⟩
                | (obtain ⟨ks, b, h1, h2, h3⟩ := hl; exact ⟨ks, b, h1, h2, hkk _ h3⟩)
    refine mono (fun y hy => hD _ _ hy ?_) h1
    have := alike_mk (o := o) (s := s) (t := t) (own := s.own) (tk := s.tk) hg (fun _ _ _ h => h) y
    have e1 : ({ s with own := s.own, tk := s.tk } : St) = s := rfl
    have e2 : ({ t with own := s.own, tk := s.tk } : St) = t := by rw [ho, htk]
    rw [e1, e2] at this
    exact this
  obtain ⟨dst, op, type, pos, after, guard⟩ := o
  unfold AOp at hk ⊢
  cases op <;> simp only at hk ⊢
  case alloc ty =>
    obtain ⟨z, hz, hk⟩ := hk
    refine ⟨z, hz, hD _ _ hk ?_⟩
    have := alike_mk (o := ⟨dst, .alloc ty, type, pos, after, guard⟩) (s := s) (t := t) (own := s.own ++ [some [.agg z]]) (tk := s.tk) hg (fun _ id es he => by rw [List.getElem?_append_left (lt_of_get he)]; exact he) (.ptr s.own.length 0 0)
    rw [← ho]
    have e : ({ t with own := s.own ++ [some [.agg z]], tk := s.tk } : St) = { t with own := s.own ++ [some [.agg z]] } := by rw [htk]
    rw [e] at this
    exact this
  case box ty x =>
    rw [← h x (by simp [Op.operands])]
    obtain ⟨h1, h2, hk⟩ := hk
    refine ⟨h1, h2, hD _ _ hk ?_⟩
    have := alike_mk (o := ⟨dst, .box ty x, type, pos, after, guard⟩) (s := s) (t := t) (own := s.own ++ [some [.agg (s.ev x).leaves]]) (tk := s.tk) hg (fun _ id es he => by rw [List.getElem?_append_left (lt_of_get he)]; exact he) (.ptr s.own.length 0 0)
    rw [← ho]
    have e : ({ t with own := s.own ++ [some [.agg (s.ev x).leaves]], tk := s.tk } : St) = { t with own := s.own ++ [some [.agg (s.ev x).leaves]] } := by rw [htk]
    rw [e] at this
    exact this
  case store ty x y =>
    rw [← h x (by simp [Op.operands]), ← h y (by simp [Op.operands])]
    unfold AStore at hk ⊢
    split at hk
    · rename_i id idx off _
      obtain ⟨n, es, e, g1, g2, g3, g4, g5, g6, g7, hk⟩ := hk
      refine ⟨n, es, e, g1, by rw [← ho]; exact g2, g3, g4, g5, g6, g7, hD _ _ hk ?_⟩
      have := alike_mk (o := ⟨dst, .store ty x y, type, pos, after, guard⟩) (s := s) (t := t) (own := s.own.set id (some (es.set idx (stEl e off (s.ev y))))) (tk := s.tk) hg (fun h0 => by simp [storeOp] at h0) (.v undef)
      rw [← ho]
      have e2 : ({ t with own := s.own.set id (some (es.set idx (stEl e off (s.ev y)))), tk := s.tk } : St) = { t with own := s.own.set id (some (es.set idx (stEl e off (s.ev y)))) } := by rw [htk]
      rw [e2] at this
      exact this
    · exact hk.elim
  case buildSlice ty n ps =>
    rw [← evParts_congr (s := s) (fun x hx => h x (by simpa [Op.operands] using hx))]
    obtain ⟨e, k, m, ys, h1, h2, h3, h4, h5, hk⟩ := hk
    refine ⟨e, k, m, ys, h1, h2, h3, h4, h5, hD _ _ hk ?_⟩
    have := alike_mk (o := ⟨dst, .buildSlice ty n ps, type, pos, after, guard⟩) (s := s) (t := t) (own := s.own) (tk := s.tk ++ [ys.length]) hg (fun _ _ _ h => h) (.sl (some s.tk.length) k ys)
    rw [← htk]
    have e : ({ t with own := s.own, tk := s.tk ++ [ys.length] } : St) = { t with tk := s.tk ++ [ys.length] } := by rw [ho]
    rw [e] at this
    exact this
  case convert a b x =>
    split at hk
    · rw [← h x (by simp [Op.operands])]
      obtain ⟨h1, h2, hk⟩ := hk
      refine ⟨h1, h2, ?_⟩
      split at hk
      · rename_i z hz
        refine hD _ _ hk ?_
        have := alike_mk (o := ⟨dst, .convert a b x, type, pos, after, guard⟩) (s := s) (t := t) (own := s.own) (tk := s.tk ++ [z.data.toList.length]) hg (fun _ _ _ h => h) (.sl (some s.tk.length) 1 (z.data.toList.map u8))
        rw [← htk]
        have e : ({ t with own := s.own, tk := s.tk ++ [z.data.toList.length] } : St) = { t with tk := s.tk ++ [z.data.toList.length] } := by rw [ho]
        rw [e] at this
        exact this
      · exact hk.elim
    · exact light hk
  case call cl =>
    obtain ⟨callee, args, tys⟩ := cl
    have ha : ∀ x ∈ args.toList, s.ev x = t.ev x := fun x hx => h x (by simp [Op.operands, Call.operands]; exact .inr (by simpa using hx))
    simp only at hk ⊢
    split at hk
    · rename_i x y t1 t2 h1 h2
      rw [← ha x (by rw [h1]; simp), ← ha y (by rw [h1]; simp)]
      obtain ⟨g1, e, k, n, xs, g2, g3, hk⟩ := hk
      refine ⟨g1, e, k, n, xs, g2, g3, ?_⟩
      split at hk
      · rename_i tk q es _
        obtain ⟨g4, g5, g6, g7, hk⟩ := hk
        refine ⟨g4, by rw [← htk]; exact g5, g6, g7, hD _ _ hk ?_⟩
        have := alike_mk (o := ⟨dst, .call ⟨.builtin .append, args, tys⟩, type, pos, after, guard⟩) (s := s) (t := t) (own := s.own) (tk := s.tk.set tk (es.length + xs.length)) hg (fun _ _ _ h => h) (.sl (some tk) k (es ++ xs))
        rw [← htk]
        have e : ({ t with own := s.own, tk := s.tk.set tk (es.length + xs.length) } : St) = { t with tk := s.tk.set tk (es.length + xs.length) } := by rw [ho]
        rw [e] at this
        exact this
      · obtain ⟨g6, g7, hk⟩ := hk
        refine ⟨g6, g7, hD _ _ hk ?_⟩
        have := alike_mk (o := ⟨dst, .call ⟨.builtin .append, args, tys⟩, type, pos, after, guard⟩) (s := s) (t := t) (own := s.own) (tk := s.tk ++ [xs.length]) hg (fun _ _ _ h => h) (.sl (some s.tk.length) k xs)
        rw [← htk]
        have e : ({ t with own := s.own, tk := s.tk ++ [xs.length] } : St) = { t with tk := s.tk ++ [xs.length] } := by rw [ho]
        rw [e] at this
        exact this
      · exact hk.elim
    · rename_i f
      have hf : s.ev f = t.ev f := h f (by simp [Op.operands, Call.operands])
      have hm : args.toList.map s.ev = args.toList.map t.ev := List.map_congr_left ha
      rw [← hf, ← hm]
      unfold ACallOp at hk ⊢
      split at hk
      · obtain ⟨g1, ys, g2, R, g3, hk⟩ := hk
        refine ⟨g1, ys, g2, R, g3, fun r tks hR => hD _ _ (hk r tks hR) ?_⟩
        have := alike_mk (o := ⟨dst, .call ⟨.value f, args, tys⟩, type, pos, after, guard⟩) (s := s) (t := t) (own := s.own) (tk := s.tk ++ tks) hg (fun _ _ _ h => h) (r.shift s.tk.length)
        rw [← htk]
        have e : ({ t with own := s.own, tk := s.tk ++ tks } : St) = { t with tk := s.tk ++ tks } := by rw [ho]
        rw [e] at this
        exact this
      · exact hk.elim
    · exact light hk
  all_goals exact light hk


end Go.Abs
