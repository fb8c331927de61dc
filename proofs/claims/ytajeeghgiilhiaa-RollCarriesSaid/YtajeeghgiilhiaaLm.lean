/- Several texts of one chain, put together (Lf, Lg, Lj, Lk, Lh, Li). -/
import Derived.Test.YtajeeghgiilhiaaLd
import Derived.Laws.Externs
/- A literal without elements, as a row of one's own. -/
set_option linter.unusedVariables false
set_option linter.unusedSimpArgs false
namespace Go.Abs
open Go Go.RowKit
theorem AWPL.mkMu {E : Env} {Q : Exit → St → Prop} {st : St} {ops : Array Oper} {l : List Oper} {dst : Option Tmp} {t ty : TypeId} {pos : String} {after : Array Edge} {e : TypeId} {k n : Nat} (hai : appInfo E.P t = some (e, k, n))
    (h : AWPL E ops l Q (St.put { st with own := st.own ++ [some []] } dst (.mu st.own.length k 0 0 0))) : AWPL E ops (⟨dst, .buildSlice t 0 #[], ty, pos, after, none⟩ :: l) Q st := by
  intro w0 im0 cx a w h0 hG r
  refine wpList_step (fun K' hK' => ?_)
  have hw : Region.wanted ⟨dst, .buildSlice t 0 #[], ty, pos, after, none⟩ (yielded ops a.tmps) = true := rfl
  rw [if_pos hw]
  obtain ⟨hu, hs, hk0, i, zv, hi, hz, hsize, hbytes, hzs⟩ := appInfo_ok hai
  have hrun : (Instr.buildSlice t 0 #[]).run E.P w = .ok (.slice (some ⟨w.heap.size, 0, none⟩) 0 0) (w.alloc (.cells #[] e)) := by
    unfold Instr.buildSlice
    simp only [Sem.run_bind, underlying_run hu, Result.andThen_ok, tsz_run hs, Sem.run_ite, Nat.zero_mul, if_true, Sem.run_pure]
    have e0 : Array.range 0 = #[] := Array.eq_empty_of_size_eq_zero (by simp)
    simp [newRow, Instr.fill, e0]
  obtain ⟨hle, r2⟩ := r.addOwn (below_alloc w (.cells #[] e)) (g := w.heap.size) (k := k) (es := []) (Nat.le_refl _) ⟨#[], e, 0, 0, heap_new w _, .inl rfl, by simp, by simp, by simp⟩
  have hv : VR { cx with β := cx.β ++ [some (w.heap.size, k)] } (.mu st.own.length k 0 0 0) (.slice (some ⟨w.heap.size, 0, none⟩) 0 0) := by
    have hb : (cx.β ++ [some (w.heap.size, k)])[st.own.length]? = some (some (w.heap.size, k)) := by
      rw [← r.ownlen, List.getElem?_append_right (Nat.le_refl _)]; simp
    have := VR.mu (c := { cx with β := cx.β ++ [some (w.heap.size, k)] }) (id := st.own.length) (off := 0) (len := 0) (cap := 0) hb (Nat.le_refl _)
    rwa [Nat.zero_mul] at this
  refine wp_value (w' := w.alloc (.cells #[] e)) (v := .slice (some ⟨w.heap.size, 0, none⟩) 0 0) ?_ (hK' _ _ (h w0 im0 _ _ _ h0 hG (r2.put dst hv)))
  simp only [execOp, Array.map_empty, Sem.run_bind, hrun, Result.andThen_ok, Sem.run_pure]
/-- Appending to an empty row of one's own, whatever is appended. -/
theorem AWPL.appMu {E : Env} {Q : Exit → St → Prop} {st : St} {ops : Array Oper} {l : List Oper} {dst : Option Tmp} {t tx ty : TypeId} {x y : Operand} {pos : String} {after : Array Edge} {e : TypeId} {k n id : Nat} {xs : List AV}
    (hx : srcTy E.P tx = true) (hai : appInfo E.P t = some (e, k, n)) (hs : st.ev x = .mu id k 0 0 0) (hsrc : ASrc (st.ev y) k = some xs) (ho : st.own[id]? = some (some [])) (h62 : xs.length ≤ 4611686018427387904) (hbt : xs.length * n ≤ 140737488355328)
    (h : ∀ m, AWPL E ops l Q (St.put { st with own := st.own.set id none ++ [some (xs ++ spare k m)] } dst (.mu st.own.length k 0 xs.length (xs.length + m)))) : AWPL E ops (⟨dst, .call ⟨.builtin .append, #[x, y], #[t, tx]⟩, ty, pos, after, none⟩ :: l) Q st := by
  intro w0 im0 cx a w h0 hG r
  refine wpList_step (fun K' hK' => ?_)
  have hw : Region.wanted ⟨dst, .call ⟨.builtin .append, #[x, y], #[t, tx]⟩, ty, pos, after, none⟩ (yielded ops a.tmps) = true := rfl
  rw [if_pos hw]
  have hv := r.ev x
  rw [hs] at hv
  have fin : ∀ (v' : Value) (w' : World) (c' : Ctx) (m : Nat), (Builtin.append_ #[t, tx] ty #[a.eval x, a.eval y]).run E.P w = .ok v' w' → Rel w0 im0 c' { st with own := st.own.set id none ++ [some (xs ++ spare k m)] } a w' → VR c' (.mu st.own.length k 0 xs.length (xs.length + m)) v' →
      Oper.wp E.P ⟨dst, .call ⟨.builtin .append, #[x, y], #[t, tx]⟩, ty, pos, after, none⟩ a w K' (fun e a' w' => Hands w0 im0 (Q e) a' w') := fun v' w' c' m h1 h2 h3 => by
    refine wp_value (w' := w') (v := v') ?_ (hK' _ _ (h m w0 im0 _ _ _ h0 hG (h2.put dst h3)))
    simp only [execOp, resolve, Sem.run_bind, Sem.run_pure, Result.andThen_ok, invoke, builtin, List.map_toArray, List.map_cons, List.map_nil, h1]
  by_cases hne : xs = []
  · subst hne
    obtain ⟨hu, hss, hk0, i, zv, hi, hz, hsize, hbytes, hzs⟩ := appInfo_ok hai
    obtain ⟨news, hnl, hnc, hlen, hone, hfirst⟩ := src_ok (P := E.P) r (r.ev y) hk0 hsrc
    have hnews : news = [] := List.eq_nil_of_length_eq_zero (by simpa using hnl)
    subst hnews
    have hrun : ∀ base, a.eval x = .slice base 0 0 → (Builtin.append_ #[t, tx] ty #[a.eval x, a.eval y]).run E.P w = .ok (a.eval x) w := fun base hb => by
      rw [hb]
      have := run_append_place (P := E.P) (w := w) (ty := ty) (base := base) (n := 0) (cap := 0) hu hss hx (hlen w) (hfirst w (fun _ _ => rfl)) (by simp)
      rw [this]
      cases base <;> simp [storeCells]
    rcases hv.inv_mu with ⟨g, hb, _, he⟩ | ⟨_, _, he⟩
    · obtain ⟨hle, r2⟩ := r.moveOwn hb ho
      refine fin _ w _ 0 (hrun _ he) (by simpa [spare] using r2) ?_
      rw [he]
      exact .mu (by show (cx.β ++ [_])[_]? = _; rw [← r.ownlen]; simp) (by simp)
    · obtain ⟨hle, r2⟩ := (r.dropOwn id).addNil
      exact fin _ w _ 0 (hrun _ he) (by simpa [spare] using r2) (by rw [he]; exact .muN)
  · obtain ⟨v', w', c', m, hr, hR, hV⟩ := append_mu (P := E.P) (ty := ty) r hx hai (r.ev y) hsrc hne (es := []) (sp := []) hv ho (by simpa using h62) (by simpa using hbt)
    exact fin v' w' c' m hr (by simpa using hR) (by simpa using hV)
end Go.Abs

/- Plans where what is appended goes to rows by content: what looks into memory may change places with an append. -/
set_option linter.unusedVariables false
set_option linter.unusedSimpArgs false
namespace Go.Abs
open Go Go.RowKit
def notMu : AV → Bool
  | .mu _ _ _ _ _ => false
  | _ => true
/-- What is appended to is no row of one's own. -/
def tokOp (st : St) : Option Oper → Prop
  | some o => match o.op with
    | .call cl => match cl.callee, cl.args.toList with
      | .builtin .append, x :: _ => notMu (st.ev x) = true
      | _, _ => True
    | _ => True
  | none => True
def setOp : Op → Bool
  | .store .. => true
  | _ => false
def AStepT (E : Env) (ops : Array Oper) (i : Nat) (C : St → Prop) (st : St) : Prop := tokOp st ops[i]? ∧ AStep E ops i C st
def APlanT (E : Env) (ops : Array Oper) (K : St → Prop) : Plan → St → Prop
  | .done, st => K st
  | .take i p, st => AStepT E ops i (APlanT E ops K p) st
  | .fork p, st => APlanT E ops K p st
  | .alt i p rest, st => AStepT E ops i (APlanT E ops K p) st ∧ APlanT E ops K rest st
  | .ends, _ => True
def AAnyT (E : Env) (ops : Array Oper) (K : St → Prop) : Nat → Array Bool → St → Prop
  | 0, L, st => Region.ready .any ops L = [] ∧ K st
  | n + 1, L, st => (Region.ready .any ops L = [] → K st) ∧ ∀ i ∈ Region.ready .any ops L, AStepT E ops i (AAnyT E ops K n (L.setIfInBounds i true)) st
def swapTB (P : Program) (ops : Array Oper) (p o : Oper) : Bool :=
  (lightOp P p.op && detOp P p.op && (!setOp o.op || !loadOp p.op)) &&
  (match p.dst with | none => true | some d => !(Oper.looksAt ops o).contains d && o.dst != some d) &&
  (match o.dst with | none => true | some d => !(Oper.looksAt ops p).contains d)
def freeT (P : Program) (ops : Array Oper) (anc : List (List Nat)) (L : Array Bool) (p : Nat) : Bool :=
  match ops[p]? with
  | none => false
  | some x => (List.range ops.size).all fun o => o == p || L.getD o true || (anc.getD o []).contains p || (match ops[o]? with | none => true | some y => swapTB P ops x y)
def planOKT (P : Program) (ops : Array Oper) (anc : List (List Nat)) : Bool → Plan → Array Bool → Nat → Bool
  | b, .done, L, _ => b && (Region.ready .any ops L).isEmpty
  | b, .take i p, L, n => b && (match n with | 0 => false | m + 1 => (Region.ready .any ops L).contains i && freeT P ops anc L i && planOKT P ops anc true p (L.setIfInBounds i true) m)
  | b, .fork p, L, n => b && (p.alts == Region.ready .any ops L) && !p.alts.isEmpty && planOKT P ops anc false p L n
  | b, .alt i p rest, L, n => !b && (match n with | 0 => false | m + 1 => (Region.ready .any ops L).contains i && planOKT P ops anc true p (L.setIfInBounds i true) m && planOKT P ops anc false rest L (m + 1))
  | b, .ends, _, _ => !b
section
variable {E : Env} {ops : Array Oper} {K : St → Prop} {anc : List (List Nat)}
theorem AStepT.mono {i : Nat} {C D : St → Prop} {st : St} (hk : AStepT E ops i C st) (h : ∀ s, C s → D s) : AStepT E ops i D st := ⟨hk.1, hk.2.mono h⟩
theorem AAnyT.drop : ∀ {n : Nat} {L : Array Bool} {st : St}, AAnyT E ops K n L st → AAny E ops K n L st
  | 0, _, _, h => h
  | _ + 1, _, _, h => ⟨h.1, fun i hi => (h.2 i hi).2.mono fun _ => AAnyT.drop⟩
theorem tok_light {P : Program} {p : Oper} {st : St} (h : lightOp P p.op = true) : tokOp st (some p) := by
  obtain ⟨dst, op, type, pos, after, guard⟩ := p
  unfold tokOp
  cases op <;> simp only
  case call cl =>
    obtain ⟨callee, args, tys⟩ := cl
    simp only [lightOp] at h
    cases callee with
    | value f => simp at h
    | invoke => simp at h
    | builtin b => cases b <;> simp only at h ⊢ <;> first | trivial | (simp at h; done)
theorem tok_put {st : St} {d : Option Tmp} {y : AV} {o : Oper} (h : ∀ t ∈ Oper.looksAt ops o, d ≠ some t) : tokOp (st.put d y) (some o) = tokOp st (some o) := by
  unfold tokOp
  obtain ⟨dst, op, type, pos, after, guard⟩ := o
  cases op <;> simp only
  case call cl =>
    obtain ⟨callee, args, tys⟩ := cl
    simp only
    split
    · rename_i x xs h1
      rw [ev_put_ne]
      intro t ht
      exact h t (looks_op (by simp [Op.operands, Call.operands]; rw [← Array.mem_toList_iff, h1, ht]; simp))
    · rfl
theorem own_keep {o : Oper} {s : St} {C : St → Prop} (ht : tokOp s (some o)) (hset : setOp o.op = false) (hk : AOp E o s C) : AOp E o s (fun s' => C s' ∧ OwnLe s s') := by
  cases hso : storeOp o.op with
  | false =>
    refine aop_congr (fun _ _ => rfl) rfl rfl rfl rfl hk (fun s' t' hc ha => ?_)
    obtain ⟨z, h1, h2⟩ := ha.at'
    have : t' = s' := by rw [h2, ← h1]
    rw [this]; exact ⟨hc, ha.ext hso⟩
  | true =>
    obtain ⟨dst, op, type, pos, after, guard⟩ := o
    cases op <;> simp only [storeOp, setOp] at hso hset <;> try (simp at hso; done)
    case store => simp at hset
    case call cl =>
      obtain ⟨callee, args, tys⟩ := cl
      simp only at hso
      cases callee with
      | value f => simp at hso
      | invoke => simp at hso
      | builtin b =>
        cases b <;> simp only at hso <;> try (simp at hso; done)
        unfold AOp at hk ⊢
        simp only at hk ⊢
        split at hk
        · rename_i x y t tx hargs htys
          rename_i hcal
          simp only [tokOp, hargs] at ht
          obtain ⟨g1, e, k, n, xs, g2, g3, hk⟩ := hk
          refine ⟨g1, e, k, n, xs, g2, g3, ?_⟩
          split at hk
          · obtain ⟨g4, g5, g6, g7, hk⟩ := hk
            exact ⟨g4, g5, g6, g7, hk, fun id es he => by rw [put_own.1]; exact he⟩
          · obtain ⟨g6, g7, hk⟩ := hk
            exact ⟨g6, g7, hk, fun id es he => by rw [put_own.1]; exact he⟩
          · rename_i hx
            rw [hx] at ht; simp [notMu] at ht
          · exact hk.elim
        · rename_i hh; simp at hh
        · exact (light_mono (fun y hy => ⟨hy, fun id es he => by rw [put_own.1]; exact he⟩) hk)
theorem swapT {i j : Nat} {p o : Oper} {C : St → Prop} {st : St} (hp : ops[i]? = some p) (ho : ops[j]? = some o) (hs : swapTB E.P ops p o = true) (h : AStepT E ops i (AStepT E ops j C) st) : AStepT E ops j (AStepT E ops i C) st := by
  unfold swapTB at hs
  simp only [Bool.and_eq_true] at hs
  obtain ⟨⟨⟨⟨hl, hd⟩, hst⟩, hpo⟩, hop⟩ := hs
  have hpo1 : ∀ t ∈ Oper.looksAt ops o, p.dst ≠ some t := fun t ht e => by
    rw [e] at hpo
    simp only [Bool.and_eq_true, Bool.not_eq_true'] at hpo
    have := hpo.1
    simp [ht] at this
  have hpo2 : ∀ t, p.dst = some t → o.dst ≠ some t := fun t e1 e2 => by
    rw [e1] at hpo
    simp only [Bool.and_eq_true] at hpo
    have := hpo.2
    simp [e2] at this
  have hop1 : ∀ t ∈ Oper.looksAt ops p, o.dst ≠ some t := fun t ht e => by
    rw [e] at hop
    simp [ht] at hop
  have htp : ∀ {C : St → Prop} {s : St}, AStep E ops i C s → AStepT E ops i C s := fun h => ⟨by rw [hp]; exact tok_light hl, h⟩
  have h := h.2
  have h1 : ∃ y, AStepT E ops j C (st.put p.dst y) ∧
      (∀ (C : St → Prop) (t : St), (∀ x ∈ p.op.operands, st.ev x = t.ev x) → AWant ops p t = AWant ops p st → (loadOp p.op = true → OwnLe st t) → C (t.put p.dst y) → AStep E ops i C t) := by
    unfold AStep at h
    rw [hp] at h
    simp only at h
    obtain ⟨q, hq, h2, h3⟩ := h
    cases q with
    | true =>
      have h2 := (light_aop hl).1 (h2 rfl)
      obtain ⟨y, ha, hb⟩ := det_light hd _ h2
      refine ⟨y, ha, fun C t e1 e2 e3 hC => ?_⟩
      unfold AStep
      rw [hp]
      refine ⟨true, by rw [e2]; exact hq, fun _ => (light_aop hl).2 ?_, fun hq => by simp at hq⟩
      exact light_congr e1 e3 (hb (fun z => C (t.put p.dst z)) hC)
    | false =>
      refine ⟨.v undef, h3 rfl, fun C t e1 e2 e3 hC => ?_⟩
      unfold AStep
      rw [hp]
      exact ⟨false, by rw [e2]; exact hq, fun hq => by simp at hq, fun _ => hC⟩
  obtain ⟨y, h2, key⟩ := h1
  have hwp : ∀ {t : St} {own : List (Option (List AV))} {tk : List Nat} {rv : Option (List (Tmp × Nat))} {z : AV}, t = St.put { st with own := own, tk := tk, rsv := rv } o.dst z → AWant ops p t = AWant ops p st := fun {t own tk rv z} e => by
    rw [e, want_put_ne hop1]; rfl
  have hevp : ∀ {t : St} {own : List (Option (List AV))} {tk : List Nat} {rv : Option (List (Tmp × Nat))} {z : AV}, t = St.put { st with own := own, tk := tk, rsv := rv } o.dst z → ∀ x ∈ p.op.operands, st.ev x = t.ev x := fun {t own tk rv z} e x hx => by
    rw [e, ev_put_ne (fun u hu => hop1 u (looks_op (hu ▸ hx)))]
    cases x <;> rfl
  obtain ⟨ht, h2⟩ := h2
  rw [ho] at ht
  have ht' : tokOp st (some o) := by rwa [tok_put hpo1] at ht
  refine ⟨by rw [ho]; exact ht', ?_⟩
  unfold AStep at h2 ⊢
  rw [ho] at h2 ⊢
  simp only at h2 ⊢
  obtain ⟨q, hq, h3, h4⟩ := h2
  rw [want_put_ne hpo1] at hq
  refine ⟨q, hq, fun e => ?_, fun e => ?_⟩
  · have h5 : AOp E o (st.put p.dst y) (fun s' => C s' ∧ (loadOp p.op = true → OwnLe (st.put p.dst y) s')) := by
      cases hset : setOp o.op with
      | false => exact aop_mono (own_keep ht hset (h3 e)) fun s' hs' => ⟨hs'.1, fun _ => hs'.2⟩
      | true => exact aop_mono (h3 e) fun s' hs' => ⟨hs', fun hload => by simp [hset, hload] at hst⟩
    refine aop_congr (t := st) (fun x hx => ev_put_ne (fun u hu => hpo1 u (looks_op (hu ▸ hx)))) put_own.1 put_own.2.1 put_own.2.2.1 put_own.2.2.2 h5 (fun s' t' hc ha => ?_)
    obtain ⟨z, e1, e2⟩ := ha.at'
    rw [put_with] at e1
    have hC : C (t'.put p.dst y) := by
      rw [e2, ← put_comm (fun t h1 h2 => hpo2 t h1 h2), ← e1]
      exact hc.1
    exact htp (key C t' (hevp e2) (hwp e2) (fun hload => by
      have := hc.2 hload
      intro id es he
      rw [ha.own]
      exact this id es (by rw [put_own.1]; exact he)) hC)
  · have h4 := h4 e
    rw [put_comm (fun t h1 h2 => hpo2 t h1 h2)] at h4
    have e2 : st.put o.dst (.v undef) = St.put { st with own := st.own, tk := st.tk, rsv := st.rsv } o.dst (.v undef) := rfl
    exact htp (key C (st.put o.dst (.v undef)) (hevp e2) (hwp e2) (fun _ id es he => by rw [put_own.1]; exact he) h4)
theorem freeT_swap (hv : listedOK ops anc = true) {L : Array Bool} (hw : WfL anc L) {p o : Nat} (hf : freeT E.P ops anc L p = true) (hp : p ∈ Region.ready .any ops L) (ho : o ∈ Region.ready .any ops L) (hne : o ≠ p) :
    ∃ x y, ops[p]? = some x ∧ ops[o]? = some y ∧ swapTB E.P ops x y = true := by
  obtain ⟨hpl, x, hx, _⟩ := mem_ready.1 hp
  obtain ⟨hol, y, hy, _⟩ := mem_ready.1 ho
  refine ⟨x, y, hx, hy, ?_⟩
  unfold freeT at hf
  simp only [hx, List.all_eq_true, List.mem_range, Bool.or_eq_true, beq_iff_eq] at hf
  have hlt : o < ops.size := (Array.getElem?_eq_some_iff.1 hy).1
  have := hf o hlt
  rcases this with ((h | h) | h) | h
  · exact absurd h hne
  · rw [hol] at h; simp at h
  · have := anc_listed hv hw ho p (by simpa using h)
    have h2 : L.getD p true = true := by
      simp only [Array.getD_eq_getD_getElem?] at this ⊢
      cases hh : L[p]? with
      | none => simp
      | some b => simpa [hh] using this
    rw [hpl] at h2; simp at h2
  · simpa [hy] using h
theorem freeT_mono {L : Array Bool} {p o : Nat} (hf : freeT E.P ops anc L p = true) : freeT E.P ops anc (L.setIfInBounds o true) p = true := by
  unfold freeT at *
  split at hf
  · simp at hf
  · rename_i x hx
    rw [List.all_eq_true] at *
    intro q hq
    have := hf q hq
    simp only [Bool.or_eq_true] at this ⊢
    rcases this with ((h | h) | h) | h
    · exact .inl (.inl (.inl h))
    · refine .inl (.inl (.inr ?_))
      by_cases e : o = q
      · subst e
        simp only [Array.getD_eq_getD_getElem?] at h ⊢
        rw [Array.getElem?_setIfInBounds, if_pos rfl]
        split <;> simp
      · rwa [getD_set_ne true e]
    · exact .inl (.inr h)
    · exact .inr h
theorem astepT_false {i : Nat} {p o : Oper} {st : St} (hp : ops[i]? = some p) (hs : swapTB E.P ops p o = true) (h : AStepT E ops i (fun _ => False) st) : False := by
  have h := h.2
  rw [astep_some hp] at h
  obtain ⟨q, h1, h2, h3⟩ := h
  cases q with
  | false => exact h3 rfl
  | true =>
    have h2 := h2 rfl
    unfold swapTB at hs
    simp only [Bool.and_eq_true] at hs
    obtain ⟨y, hy, _⟩ := det_light hs.1.1.1.2 _ ((light_aop hs.1.1.1.1).1 h2)
    exact hy
theorem takeT_ok (hv : listedOK ops anc = true) {p : Nat} : ∀ (n : Nat) (L : Array Bool) (st : St), WfL anc L → freeT E.P ops anc L p = true → p ∈ Region.ready .any ops L →
    AStepT E ops p (AAnyT E ops K n (L.setIfInBounds p true)) st → AAnyT E ops K (n + 1) L st
  | n, L, st, hw, hf, hp, h => by
    refine ⟨fun e => (by rw [e] at hp; simp at hp), fun o ho => ?_⟩
    by_cases hne : o = p
    · subst hne; exact h
    · obtain ⟨x, y, hx, hy, hs⟩ := freeT_swap (E := E) hv hw hf hp ho hne
      have ho' := ready_add ho hne (o := p)
      cases n with
      | zero =>
        exfalso
        have : ∀ st', AAnyT E ops K 0 (L.setIfInBounds p true) st' → False := fun st' h' => by
          have := h'.1
          rw [this] at ho'; simp at ho'
        exact astepT_false hx hs (h.mono (D := fun _ => False) this)
      | succ m =>
        have h2 : AStepT E ops p (AStepT E ops o (AAnyT E ops K m ((L.setIfInBounds p true).setIfInBounds o true))) st := h.mono fun s hs' => hs'.2 o ho'
        have h3 := swapT hx hy hs h2
        refine h3.mono fun s hs' => ?_
        rw [set_comm] at hs'
        exact takeT_ok hv m _ s (hw.add hv ho) (freeT_mono hf) (ready_add hp (fun e => hne e.symm)) hs'
theorem planT_ok (hv : listedOK ops anc = true) : ∀ (x : Plan) (b : Bool) (L : Array Bool) (n : Nat) (st : St), planOKT E.P ops anc b x L n = true → WfL anc L → APlanT E ops K x st →
    (b = true → AAnyT E ops K n L st) ∧ (b = false → ∀ i ∈ x.alts, ∃ m, n = m + 1 ∧ AStepT E ops i (AAnyT E ops K m (L.setIfInBounds i true)) st)
  | .done, b, L, n, st, h, hw, ha => by
    simp only [planOKT, Bool.and_eq_true, List.isEmpty_iff] at h
    refine ⟨fun _ => ?_, fun hb => by rw [hb] at h; simp at h⟩
    cases n with
    | zero => exact ⟨h.2, ha⟩
    | succ n => exact ⟨fun _ => ha, fun i hi => by rw [h.2] at hi; simp at hi⟩
  | .take i p, b, L, n, st, h, hw, ha => by
    simp only [planOKT, Bool.and_eq_true] at h
    refine ⟨fun _ => ?_, fun hb => by rw [hb] at h; simp at h⟩
    cases n with
    | zero => simp at h
    | succ n =>
      simp only [Bool.and_eq_true] at h
      obtain ⟨_, ⟨h1, h2⟩, h3⟩ := h
      have h1 : i ∈ Region.ready .any ops L := by simpa using h1
      refine takeT_ok hv n L st hw h2 h1 ?_
      exact AStepT.mono ha fun s hs => (planT_ok hv p true _ n s h3 (hw.add hv h1) hs).1 rfl
  | .fork p, b, L, n, st, h, hw, ha => by
    simp only [planOKT, Bool.and_eq_true, beq_iff_eq, Bool.not_eq_true', List.isEmpty_eq_false_iff] at h
    obtain ⟨⟨⟨hb, h1⟩, h2⟩, h3⟩ := h
    refine ⟨fun _ => ?_, fun hb' => by rw [hb'] at hb; simp at hb⟩
    have := (planT_ok hv p false L n st h3 hw ha).2 rfl
    obtain ⟨i0, hi0⟩ := List.exists_mem_of_ne_nil _ h2
    obtain ⟨n', rfl, _⟩ := this i0 hi0
    refine ⟨fun e => by rw [h1, e] at hi0; simp at hi0, fun i hi => ?_⟩
    obtain ⟨m, e, hm⟩ := this i (by rw [h1]; exact hi)
    have : m = n' := by omega
    subst this
    exact hm
  | .alt i p rest, b, L, n, st, h, hw, ha => by
    simp only [planOKT, Bool.and_eq_true, Bool.not_eq_true'] at h
    refine ⟨fun hb => by rw [hb] at h; simp at h, fun _ => ?_⟩
    cases n with
    | zero => simp at h
    | succ n =>
      simp only [Bool.and_eq_true] at h
      obtain ⟨_, ⟨h1, h2⟩, h3⟩ := h
      have h1 : i ∈ Region.ready .any ops L := by simpa using h1
      intro j hj
      simp only [Plan.alts, List.mem_cons] at hj
      rcases hj with rfl | hj
      · exact ⟨n, rfl, AStepT.mono ha.1 fun s hs => (planT_ok hv p true _ n s h2 (hw.add hv h1) hs).1 rfl⟩
      · exact (planT_ok hv rest false L (n + 1) st h3 hw ha.2).2 rfl j hj
  | .ends, b, L, n, st, h, hw, ha => by
    simp only [planOKT, Bool.not_eq_true'] at h
    exact ⟨fun hb => by rw [hb] at h; simp at h, fun _ i hi => by simp [Plan.alts] at hi⟩
/-- A region that draws its order, by a plan; no row of one's own is appended to. -/
theorem AWP.regionAnyT {id : Nat} {l : List Oper} {Q : Exit → St → Prop} {st : St} (x : Plan) (anc : List (List Nat)) (ds : List Tmp) (hm : E.P.follows .mixedOrders = true)
    (hx : (listedOK l.toArray anc && planOKT E.P l.toArray anc true x (Array.replicate l.toArray.size false) l.toArray.size) = true) (h : APlanT E l.toArray (Done (Q .normal)) x (st.keep ds)) : AWP E (.region id l.toArray true) Q st := fun w0 im0 cx a w h0 hG r => by
  simp only [Bool.and_eq_true] at hx
  have r' : Rel w0 im0 cx st a w.drew := ⟨r.defers, r.size, r.tmps, r.below.drew, r.imle, r.imold, r.imok, r.ownlen, fun i g k es h1 h2 => let h3 := r.own i g k es h1 h2; ⟨h3.new, h3.im, h3.blk⟩, r.tklen, r.tail, fun t T b h1 h2 => let h3 := r.tok t T b h1 h2; ⟨h3.new, h3.room, h3.im, h3.blk⟩, r.apart, r.glob, r.up, r.hole⟩
  have r2 := r'.reserve ds.length (l := mkRsv ds st.own.length) (fun d i hmem => (mem_mkRsv hmem).2)
  refine wp_region_any hm (aany_sound h0 hG (K := Done (Q .normal)) (fun a' w' hh => ?_) _ _ (st.keep ds) _ a _ r2 ?_)
  · obtain ⟨c', st', r3, hk⟩ := hh
    exact ⟨c', { st' with rsv := none }, ⟨r3.defers, r3.size, r3.tmps, r3.below, r3.imle, r3.imold, r3.imok, r3.ownlen, r3.own, r3.tklen, r3.tail, r3.tok, r3.apart, r3.glob, r3.up, fun l d i e => by cases e⟩, hk⟩
  · refine ((planT_ok hx.1 x true _ _ _ hx.2 ?_ h).1 rfl).drop
    intro m hm
    exfalso
    simp only [Array.getD_eq_getD_getElem?, Array.getElem?_replicate] at hm
    split at hm <;> simp at hm
theorem aplanT_mono {K L : St → Prop} (hk : ∀ s, K s → L s) : ∀ {p : Plan} {st : St}, APlanT E ops K p st → APlanT E ops L p st
  | .done, _, h => hk _ h
  | .take _ _, _, h => AStepT.mono h fun _ => aplanT_mono hk
  | .fork p, _, h => aplanT_mono (p := p) hk h
  | .alt _ _ r, _, h => ⟨AStepT.mono h.1 fun _ => aplanT_mono hk, aplanT_mono (p := r) hk h.2⟩
  | .ends, _, _ => trivial
@[go_sem] theorem apT_done {st : St} : APlanT E ops K .done st = K st := rfl
@[go_sem] theorem apT_take {st : St} {i : Nat} {p : Plan} : APlanT E ops K (.take i p) st = (tokOp st ops[i]? ∧ AList E ops (ops[i]?).toList st (APlanT E ops K p)) := by
  show (_ ∧ AStep E ops i (APlanT E ops K p) st) = _
  rw [astep_list]
@[go_sem] theorem apT_fork {st : St} {p : Plan} : APlanT E ops K (.fork p) st = APlanT E ops K p st := rfl
@[go_sem] theorem apT_alt {st : St} {i : Nat} {p r : Plan} : APlanT E ops K (.alt i p r) st = ((tokOp st ops[i]? ∧ AList E ops (ops[i]?).toList st (APlanT E ops K p)) ∧ APlanT E ops K r st) := by
  show ((_ ∧ AStep E ops i (APlanT E ops K p) st) ∧ _) = _
  rw [astep_list]
@[go_sem] theorem apT_ends {st : St} : APlanT E ops K .ends st = True := rfl
end
attribute [go_sem] tokOp notMu
end Go.Abs

/- Plans where some literals without elements, and what is appended to them, are rows of one's own. -/
set_option linter.unusedVariables false
set_option linter.unusedSimpArgs false
namespace Go.Abs
open Go Go.RowKit
/-- A literal without elements, an append to it, as a row of one's own. -/
def MuStep (E : Env) (o : Oper) (C : St → Prop) (st : St) : Prop := o.guard = none ∧
  ((∃ t e k n, o.op = .buildSlice t 0 #[] ∧ appInfo E.P t = some (e, k, n) ∧ C (St.put { st with own := st.own ++ [some []] } o.dst (.mu st.own.length k 0 0 0))) ∨
   ∃ t tx x y e k n id xs, o.op = .call ⟨.builtin .append, #[x, y], #[t, tx]⟩ ∧ srcTy E.P tx = true ∧ appInfo E.P t = some (e, k, n) ∧ st.ev x = .mu id k 0 0 0 ∧ ASrc (st.ev y) k = some xs ∧ st.own[id]? = some (some []) ∧ xs.length ≤ 4611686018427387904 ∧ xs.length * n ≤ 140737488355328 ∧
     ∀ m, C (St.put { st with own := st.own.set id none ++ [some (xs ++ spare k m)] } o.dst (.mu st.own.length k 0 xs.length (xs.length + m))))
def AStepM (E : Env) (ops : Array Oper) (ms : List Nat) (i : Nat) (C : St → Prop) (st : St) : Prop := if ms.contains i = true then ∃ o, ops[i]? = some o ∧ MuStep E o C st else tokOp st ops[i]? ∧ AStep E ops i C st
def APlanM (E : Env) (ops : Array Oper) (ms : List Nat) (K : St → Prop) : Plan → St → Prop
  | .done, st => K st
  | .take i p, st => AStepM E ops ms i (APlanM E ops ms K p) st
  | .fork p, st => APlanM E ops ms K p st
  | .alt i p rest, st => AStepM E ops ms i (APlanM E ops ms K p) st ∧ APlanM E ops ms K rest st
  | .ends, _ => True
def AAnyM (E : Env) (ops : Array Oper) (ms : List Nat) (K : St → Prop) : Nat → Array Bool → St → Prop
  | 0, L, st => Region.ready .any ops L = [] ∧ K st
  | n + 1, L, st => (Region.ready .any ops L = [] → K st) ∧ ∀ i ∈ Region.ready .any ops L, AStepM E ops ms i (AAnyM E ops ms K n (L.setIfInBounds i true)) st
def planOKM (P : Program) (ops : Array Oper) (anc : List (List Nat)) : Bool → Plan → Array Bool → Nat → Bool
  | b, .done, L, _ => b && (Region.ready .any ops L).isEmpty
  | b, .take i p, L, n => b && (match n with | 0 => false | m + 1 => (Region.ready .any ops L).contains i && freeT P ops anc L i && planOKM P ops anc true p (L.setIfInBounds i true) m)
  | b, .fork p, L, n => b && (p.alts == Region.ready .any ops L) && !p.alts.isEmpty && planOKM P ops anc false p L n
  | b, .alt i p rest, L, n => !b && (match n with | 0 => false | m + 1 => (Region.ready .any ops L).contains i && planOKM P ops anc true p (L.setIfInBounds i true) m && planOKM P ops anc false rest L (m + 1))
  | b, .ends, _, _ => !b
/-- What an own row with elements is, it stays. -/
def OwnLeN (s t : St) : Prop := ∀ (id : Nat) (e : AV) (es : List AV), s.own[id]? = some (some (e :: es)) → t.own[id]? = some (some (e :: es))
theorem cellsAt_leN {s t : St} (h : OwnLeN s t) {x : AV} {cs : List AV} (hc : cellsAt s x = some cs) : cellsAt t x = some cs := by
  unfold cellsAt at hc ⊢
  cases x <;> simp only at hc ⊢ <;> first | exact hc | skip
  case ptr id idx off =>
    cases ho : s.own[id]? with
    | none => rw [ho] at hc; simp at hc
    | some o =>
      cases o with
      | none => rw [ho] at hc; simp at hc
      | some es =>
        cases es with
        | nil => rw [ho] at hc; simp at hc
        | cons e es => rw [ho] at hc; rw [h id e es ho]; exact hc
theorem light_congrN {P : Program} {s t : St} {op : Op} {k : AV → Prop} (h : ∀ x ∈ op.operands, s.ev x = t.ev x) (ho : loadOp op = true → OwnLeN s t) (hk : ALight P s op k) : ALight P t op k := by
  cases hl : loadOp op with
  | false => exact light_congr h (fun e => by rw [hl] at e; simp at e) hk
  | true =>
    cases op <;> simp only [loadOp] at hl <;> try (simp at hl; done)
    case load t' x =>
      simp only [ALight] at hk ⊢
      rw [← h x (by simp [Op.operands])]
      obtain ⟨cs, h1, h2⟩ := hk
      exact ⟨cs, cellsAt_leN (ho rfl) h1, h2⟩
section
variable {E : Env} {ops : Array Oper} {ms : List Nat} {K : St → Prop} {anc : List (List Nat)}
theorem mu_heavy {o : Oper} {C : St → Prop} {st : St} (h : MuStep E o C st) (hl : lightOp E.P o.op = true) : False := by
  obtain ⟨_, ⟨t, e, k, n, ho, _⟩ | ⟨t, tx, x, y, e, k, n, id, xs, ho, _⟩⟩ := h <;> rw [ho] at hl <;> simp [lightOp] at hl
theorem MuStep.mono {o : Oper} {C D : St → Prop} {st : St} (h : MuStep E o C st) (hk : ∀ s, C s → D s) : MuStep E o D st := by
  obtain ⟨hg, ⟨t, e, k, n, ho, ha, hc⟩ | ⟨t, tx, x, y, e, k, n, id, xs, ho, h1, h2, h3, h4, h5, h6, h7, hc⟩⟩ := h
  · exact ⟨hg, .inl ⟨t, e, k, n, ho, ha, hk _ hc⟩⟩
  · exact ⟨hg, .inr ⟨t, tx, x, y, e, k, n, id, xs, ho, h1, h2, h3, h4, h5, h6, h7, fun m => hk _ (hc m)⟩⟩
theorem AStepM.mono {i : Nat} {C D : St → Prop} {st : St} (hk : AStepM E ops ms i C st) (h : ∀ s, C s → D s) : AStepM E ops ms i D st := by
  unfold AStepM at *
  split
  · rename_i hi; rw [if_pos hi] at hk; obtain ⟨o, h1, h2⟩ := hk; exact ⟨o, h1, h2.mono h⟩
  · rename_i hi; rw [if_neg hi] at hk; exact ⟨hk.1, hk.2.mono h⟩
/-- A row of one's own may be made before or behind what only looks. -/
theorem swap_mu {i j : Nat} {p o : Oper} {C : St → Prop} {st : St} (hp : ops[i]? = some p) (ho : ops[j]? = some o) (hs : swapTB E.P ops p o = true) (h : AStepT E ops i (fun s => ∃ o, ops[j]? = some o ∧ MuStep E o C s) st) : MuStep E o (AStepT E ops i C) st := by
  unfold swapTB at hs
  simp only [Bool.and_eq_true] at hs
  obtain ⟨⟨⟨⟨hl, hd⟩, hst⟩, hpo⟩, hop⟩ := hs
  have hpo1 : ∀ t ∈ Oper.looksAt ops o, p.dst ≠ some t := fun t ht e => by
    rw [e] at hpo
    simp only [Bool.and_eq_true, Bool.not_eq_true'] at hpo
    have := hpo.1
    simp [ht] at this
  have hpo2 : ∀ t, p.dst = some t → o.dst ≠ some t := fun t e1 e2 => by
    rw [e1] at hpo
    simp only [Bool.and_eq_true] at hpo
    have := hpo.2
    simp [e2] at this
  have hop1 : ∀ t ∈ Oper.looksAt ops p, o.dst ≠ some t := fun t ht e => by
    rw [e] at hop
    simp [ht] at hop
  have htp : ∀ {C : St → Prop} {s : St}, AStep E ops i C s → AStepT E ops i C s := fun h => ⟨by rw [hp]; exact tok_light hl, h⟩
  have h := h.2
  have h1 : ∃ y, MuStep E o C (st.put p.dst y) ∧
      (∀ (C : St → Prop) (t : St), (∀ x ∈ p.op.operands, st.ev x = t.ev x) → AWant ops p t = AWant ops p st → (loadOp p.op = true → OwnLeN st t) → C (t.put p.dst y) → AStep E ops i C t) := by
    unfold AStep at h
    rw [hp] at h
    simp only at h
    obtain ⟨q, hq, h2, h3⟩ := h
    cases q with
    | true =>
      have h2 := (light_aop hl).1 (h2 rfl)
      obtain ⟨y, ha, hb⟩ := det_light hd _ h2
      obtain ⟨o', e1, ha⟩ := ha
      rw [ho] at e1; cases e1
      refine ⟨y, ha, fun C t e1 e2 e3 hC => ?_⟩
      unfold AStep
      rw [hp]
      refine ⟨true, by rw [e2]; exact hq, fun _ => (light_aop hl).2 ?_, fun hq => by simp at hq⟩
      exact light_congrN e1 e3 (hb (fun z => C (t.put p.dst z)) hC)
    | false =>
      obtain ⟨o', e1, ha⟩ := h3 rfl
      rw [ho] at e1; cases e1
      refine ⟨.v undef, ha, fun C t e1 e2 e3 hC => ?_⟩
      unfold AStep
      rw [hp]
      exact ⟨false, by rw [e2]; exact hq, fun hq => by simp at hq, fun _ => hC⟩
  obtain ⟨y, h2, key⟩ := h1
  have hwp : ∀ {t : St} {own : List (Option (List AV))} {z : AV}, t = St.put { st with own := own } o.dst z → AWant ops p t = AWant ops p st := fun {t own z} e => by
    rw [e, want_put_ne hop1]; rfl
  have hevp : ∀ {t : St} {own : List (Option (List AV))} {z : AV}, t = St.put { st with own := own } o.dst z → ∀ x ∈ p.op.operands, st.ev x = t.ev x := fun {t own z} e x hx => by
    rw [e, ev_put_ne (fun u hu => hop1 u (looks_op (hu ▸ hx)))]
    cases x <;> rfl
  have hcm : ∀ {own : List (Option (List AV))} {z : AV}, (St.put { st.put p.dst y with own := own } o.dst z) = (St.put { st with own := own } o.dst z).put p.dst y := fun {own z} => by
    have e1 : ({ st.put p.dst y with own := own } : St) = St.put { st with own := own } p.dst y := by cases p.dst <;> rfl
    rw [e1]; exact put_comm (fun t h1 h2 => hpo2 t h1 h2)
  obtain ⟨hg, ⟨t, e, k, n, hoo, ha, hc⟩ | ⟨t, tx, x, z, e, k, n, id, xs, hoo, g1, g2, g3, g4, g5, g6, g7, hc⟩⟩ := h2
  · refine ⟨hg, .inl ⟨t, e, k, n, hoo, ha, ?_⟩⟩
    rw [put_own.1, hcm] at hc
    exact htp (key C _ (hevp rfl) (hwp rfl) (fun _ id e es he => by rw [put_own.1]; show (st.own ++ [some []])[id]? = _; rw [List.getElem?_append_left (lt_of_get he)]; exact he) hc)
  · have hx : (st.put p.dst y).ev x = st.ev x := ev_put_ne (fun u hu => hpo1 u (looks_op (by rw [hoo, ← hu]; simp [Op.operands, Call.operands])))
    have hz : (st.put p.dst y).ev z = st.ev z := ev_put_ne (fun u hu => hpo1 u (looks_op (by rw [hoo, ← hu]; simp [Op.operands, Call.operands])))
    rw [hx] at g3; rw [hz] at g4; rw [put_own.1] at g5
    refine ⟨hg, .inr ⟨t, tx, x, z, e, k, n, id, xs, hoo, g1, g2, g3, g4, g5, g6, g7, fun m => ?_⟩⟩
    have hc := hc m
    rw [put_own.1, hcm] at hc
    exact htp (key C _ (hevp rfl) (hwp rfl) (fun _ id' e es he => by
      rw [put_own.1]
      show (st.own.set id none ++ [some (xs ++ spare k m)])[id']? = _
      have hne : id ≠ id' := fun e0 => by rw [e0, he] at g5; simp at g5
      rw [List.getElem?_append_left (by rw [List.length_set]; exact lt_of_get he), List.getElem?_set_ne hne]; exact he) hc)
theorem swapM {i j : Nat} {p o : Oper} {C : St → Prop} {st : St} (hp : ops[i]? = some p) (ho : ops[j]? = some o) (hs : swapTB E.P ops p o = true) (h : AStepM E ops ms i (AStepM E ops ms j C) st) : AStepM E ops ms j (AStepM E ops ms i C) st := by
  have hl : lightOp E.P p.op = true := by unfold swapTB at hs; simp only [Bool.and_eq_true] at hs; exact hs.1.1.1.1
  by_cases hi : ms.contains i = true
  · unfold AStepM at h; rw [if_pos hi] at h
    obtain ⟨o', e1, h2⟩ := h
    rw [hp] at e1; cases e1
    exact (mu_heavy h2 hl).elim
  · have ei : ∀ (X : St → Prop) s, AStepM E ops ms i X s = AStepT E ops i X s := fun X s => by unfold AStepM AStepT; rw [if_neg hi]
    by_cases hj : ms.contains j = true
    · have ej : ∀ (X : St → Prop) s, AStepM E ops ms j X s = ∃ o, ops[j]? = some o ∧ MuStep E o X s := fun X s => by unfold AStepM; rw [if_pos hj]
      rw [ei] at h
      rw [ej]
      refine ⟨o, ho, (swap_mu hp ho hs (h.mono fun s hs' => by rw [ej] at hs'; exact hs')).mono fun s hs' => by rw [ei]; exact hs'⟩
    · have ej : ∀ (X : St → Prop) s, AStepM E ops ms j X s = AStepT E ops j X s := fun X s => by unfold AStepM AStepT; rw [if_neg hj]
      rw [ei] at h
      rw [ej]
      exact (swapT hp ho hs (h.mono fun s hs' => by rw [ej] at hs'; exact hs')).mono fun s hs' => by rw [ei]; exact hs'
theorem astepM_false {i : Nat} {p o : Oper} {st : St} (hp : ops[i]? = some p) (hs : swapTB E.P ops p o = true) (h : AStepM E ops ms i (fun _ => False) st) : False := by
  have hl : lightOp E.P p.op = true := by have := hs; unfold swapTB at this; simp only [Bool.and_eq_true] at this; exact this.1.1.1.1
  unfold AStepM at h
  split at h
  · obtain ⟨o', e1, h2⟩ := h
    rw [hp] at e1; cases e1
    exact mu_heavy h2 hl
  · exact astepT_false hp hs h
theorem mu_sound {w0 : World} {im0 : Base} {c : Ctx} {st : St} {a : Act} {w : World} (r : Rel w0 im0 c st a w) {o : Oper} {Q : Exit → Act → World → Prop} (h : MuStep E o K st) : o.wp E.P a w (Hands w0 im0 K) Q := by
  obtain ⟨dst, op, ty, pos, after, guard⟩ := o
  obtain ⟨hg, ⟨t, e, k, n, hoo, hai, hC⟩ | ⟨t, tx, x, y, e, k, n, id, xs, hoo, hx, hai, hs, hsrc, ho, h62, hbt, hC⟩⟩ := h
  · simp only at hoo; subst hoo
    obtain ⟨hu, hs, hk0, i, zv, hi, hz, hsize, hbytes, hzs⟩ := appInfo_ok hai
    have hrun : (Instr.buildSlice t 0 #[]).run E.P w = .ok (.slice (some ⟨w.heap.size, 0, none⟩) 0 0) (w.alloc (.cells #[] e)) := by
      unfold Instr.buildSlice
      simp only [Sem.run_bind, underlying_run hu, Result.andThen_ok, tsz_run hs, Sem.run_ite, Nat.zero_mul, if_true, Sem.run_pure]
      have e0 : Array.range 0 = #[] := Array.eq_empty_of_size_eq_zero (by simp)
      simp [newRow, Instr.fill, e0]
    obtain ⟨hle, r2⟩ := r.addOwn (below_alloc w (.cells #[] e)) (g := w.heap.size) (k := k) (es := []) (Nat.le_refl _) ⟨#[], e, 0, 0, heap_new w _, .inl rfl, by simp, by simp, by simp⟩
    have hv : VR { c with β := c.β ++ [some (w.heap.size, k)] } (.mu st.own.length k 0 0 0) (.slice (some ⟨w.heap.size, 0, none⟩) 0 0) := by
      have hb : (c.β ++ [some (w.heap.size, k)])[st.own.length]? = some (some (w.heap.size, k)) := by
        rw [← r.ownlen, List.getElem?_append_right (Nat.le_refl _)]; simp
      have := VR.mu (c := { c with β := c.β ++ [some (w.heap.size, k)] }) (id := st.own.length) (off := 0) (len := 0) (cap := 0) hb (Nat.le_refl _)
      rwa [Nat.zero_mul] at this
    refine wp_value (w' := w.alloc (.cells #[] e)) (v := .slice (some ⟨w.heap.size, 0, none⟩) 0 0) ?_ ⟨_, _, r2.put dst hv, hC⟩
    simp only [execOp, Array.map_empty, Sem.run_bind, hrun, Result.andThen_ok, Sem.run_pure]
  · simp only at hoo; subst hoo
    have hv := r.ev x
    rw [hs] at hv
    have fin : ∀ (v' : Value) (w' : World) (c' : Ctx) (m : Nat), (Builtin.append_ #[t, tx] ty #[a.eval x, a.eval y]).run E.P w = .ok v' w' → Rel w0 im0 c' { st with own := st.own.set id none ++ [some (xs ++ spare k m)] } a w' → VR c' (.mu st.own.length k 0 xs.length (xs.length + m)) v' →
        Oper.wp E.P ⟨dst, .call ⟨.builtin .append, #[x, y], #[t, tx]⟩, ty, pos, after, guard⟩ a w (Hands w0 im0 K) Q := fun v' w' c' m h1 h2 h3 => by
      refine wp_value (w' := w') (v := v') ?_ ⟨c', _, h2.put dst h3, hC m⟩
      simp only [execOp, resolve, Sem.run_bind, Sem.run_pure, Result.andThen_ok, invoke, builtin, List.map_toArray, List.map_cons, List.map_nil, h1]
    by_cases hne : xs = []
    · subst hne
      obtain ⟨hu, hss, hk0, i, zv, hi, hz, hsize, hbytes, hzs⟩ := appInfo_ok hai
      obtain ⟨news, hnl, hnc, hlen, hone, hfirst⟩ := src_ok (P := E.P) r (r.ev y) hk0 hsrc
      have hnews : news = [] := List.eq_nil_of_length_eq_zero (by simpa using hnl)
      subst hnews
      have hrun : ∀ base, a.eval x = .slice base 0 0 → (Builtin.append_ #[t, tx] ty #[a.eval x, a.eval y]).run E.P w = .ok (a.eval x) w := fun base hb => by
        rw [hb]
        have := run_append_place (P := E.P) (w := w) (ty := ty) (base := base) (n := 0) (cap := 0) hu hss hx (hlen w) (hfirst w (fun _ _ => rfl)) (by simp)
        rw [this]
        cases base <;> simp [storeCells]
      rcases hv.inv_mu with ⟨g, hb, _, he⟩ | ⟨_, _, he⟩
      · obtain ⟨hle, r2⟩ := r.moveOwn hb ho
        refine fin _ w _ 0 (hrun _ he) (by simpa [spare] using r2) ?_
        rw [he]
        exact .mu (by show (c.β ++ [_])[_]? = _; rw [← r.ownlen]; simp) (by simp)
      · obtain ⟨hle, r2⟩ := (r.dropOwn id).addNil
        exact fin _ w _ 0 (hrun _ he) (by simpa [spare] using r2) (by rw [he]; exact .muN)
    · obtain ⟨v', w', c', m, hr, hR, hV⟩ := append_mu (P := E.P) (ty := ty) r hx hai (r.ev y) hsrc hne (es := []) (sp := []) hv ho (by simpa using h62) (by simpa using hbt)
      exact fin v' w' c' m hr (by simpa using hR) (by simpa using hV)
theorem aanyM_sound {w0 : World} {im0 : Base} (h0 : E.ok w0) (hG : GOB E im0) {Q : Exit → Act → World → Prop} (hQ : ∀ a w, Hands w0 im0 K a w → Q .normal a w) : ∀ (n : Nat) (L : Array Bool) (st : St) (c : Ctx) (a : Act) (w : World),
    Rel w0 im0 c st a w → AAnyM E ops ms K n L st → wpAny E.P .any ops Q n L a w
  | 0, _, st, c, _, _, r, h => ⟨h.1, hQ _ _ ⟨c, st, r, h.2⟩⟩
  | n + 1, L, st, c, a, w, r, h => by
    refine ⟨fun he => hQ _ _ ⟨c, st, r, h.1 he⟩, fun i hi => ?_⟩
    have h1 := h.2 i hi
    unfold AStepM at h1
    unfold wpOp
    split at h1
    · obtain ⟨o, hop, hm⟩ := h1
      rw [hop]
      have hw : Region.wanted o (yielded ops a.tmps) = true := by unfold Region.wanted; rw [hm.1]
      simp only []
      rw [hw]
      simp only [if_true]
      exact .inl (Oper.wp_mono (fun a' w' ⟨c', st', r', h'⟩ => aanyM_sound h0 hG hQ n _ st' c' a' w' r' h') (mu_sound r hm))
    · have h1 := h1.2
      unfold AStep at h1
      cases hop : ops[i]? with
      | none => obtain ⟨_, o, ho, _⟩ := mem_ready.1 hi; rw [hop] at ho; simp at ho
      | some o =>
        rw [hop] at h1
        obtain ⟨q, hq, h2, h3⟩ := h1
        have hw := want_ok r hq
        simp only []
        rw [hw]
        cases q with
        | true =>
          simp only [if_true]
          exact .inl (Oper.wp_mono (fun a' w' ⟨c', st', r', h'⟩ => aanyM_sound h0 hG hQ n _ st' c' a' w' r' h') (aop_sound h0 hG r (h2 rfl)))
        | false =>
          simp only [Bool.false_eq_true, if_false]
          exact aanyM_sound h0 hG hQ n _ _ c _ _ (r.put o.dst (.base (.v undef))) (h3 rfl)
theorem takeM_ok (hv : listedOK ops anc = true) {p : Nat} : ∀ (n : Nat) (L : Array Bool) (st : St), WfL anc L → freeT E.P ops anc L p = true → p ∈ Region.ready .any ops L →
    AStepM E ops ms p (AAnyM E ops ms K n (L.setIfInBounds p true)) st → AAnyM E ops ms K (n + 1) L st
  | n, L, st, hw, hf, hp, h => by
    refine ⟨fun e => (by rw [e] at hp; simp at hp), fun o ho => ?_⟩
    by_cases hne : o = p
    · subst hne; exact h
    · obtain ⟨x, y, hx, hy, hs⟩ := freeT_swap (E := E) hv hw hf hp ho hne
      have ho' := ready_add ho hne (o := p)
      cases n with
      | zero =>
        exfalso
        have : ∀ st', AAnyM E ops ms K 0 (L.setIfInBounds p true) st' → False := fun st' h' => by
          have := h'.1
          rw [this] at ho'; simp at ho'
        exact astepM_false hx hs (h.mono (D := fun _ => False) this)
      | succ m =>
        have h2 : AStepM E ops ms p (AStepM E ops ms o (AAnyM E ops ms K m ((L.setIfInBounds p true).setIfInBounds o true))) st := h.mono fun s hs' => hs'.2 o ho'
        have h3 := swapM hx hy hs h2
        refine h3.mono fun s hs' => ?_
        rw [set_comm] at hs'
        exact takeM_ok hv m _ s (hw.add hv ho) (freeT_mono hf) (ready_add hp (fun e => hne e.symm)) hs'
theorem planM_ok (hv : listedOK ops anc = true) : ∀ (x : Plan) (b : Bool) (L : Array Bool) (n : Nat) (st : St), planOKM E.P ops anc b x L n = true → WfL anc L → APlanM E ops ms K x st →
    (b = true → AAnyM E ops ms K n L st) ∧ (b = false → ∀ i ∈ x.alts, ∃ m, n = m + 1 ∧ AStepM E ops ms i (AAnyM E ops ms K m (L.setIfInBounds i true)) st)
  | .done, b, L, n, st, h, hw, ha => by
    simp only [planOKM, Bool.and_eq_true, List.isEmpty_iff] at h
    refine ⟨fun _ => ?_, fun hb => by rw [hb] at h; simp at h⟩
    cases n with
    | zero => exact ⟨h.2, ha⟩
    | succ n => exact ⟨fun _ => ha, fun i hi => by rw [h.2] at hi; simp at hi⟩
  | .take i p, b, L, n, st, h, hw, ha => by
    simp only [planOKM, Bool.and_eq_true] at h
    refine ⟨fun _ => ?_, fun hb => by rw [hb] at h; simp at h⟩
    cases n with
    | zero => simp at h
    | succ n =>
      simp only [Bool.and_eq_true] at h
      obtain ⟨_, ⟨h1, h2⟩, h3⟩ := h
      have h1 : i ∈ Region.ready .any ops L := by simpa using h1
      refine takeM_ok hv n L st hw h2 h1 ?_
      exact AStepM.mono ha fun s hs => (planM_ok hv p true _ n s h3 (hw.add hv h1) hs).1 rfl
  | .fork p, b, L, n, st, h, hw, ha => by
    simp only [planOKM, Bool.and_eq_true, beq_iff_eq, Bool.not_eq_true', List.isEmpty_eq_false_iff] at h
    obtain ⟨⟨⟨hb, h1⟩, h2⟩, h3⟩ := h
    refine ⟨fun _ => ?_, fun hb' => by rw [hb'] at hb; simp at hb⟩
    have := (planM_ok hv p false L n st h3 hw ha).2 rfl
    obtain ⟨i0, hi0⟩ := List.exists_mem_of_ne_nil _ h2
    obtain ⟨n', rfl, _⟩ := this i0 hi0
    refine ⟨fun e => by rw [h1, e] at hi0; simp at hi0, fun i hi => ?_⟩
    obtain ⟨m, e, hm⟩ := this i (by rw [h1]; exact hi)
    have : m = n' := by omega
    subst this
    exact hm
  | .alt i p rest, b, L, n, st, h, hw, ha => by
    simp only [planOKM, Bool.and_eq_true, Bool.not_eq_true'] at h
    refine ⟨fun hb => by rw [hb] at h; simp at h, fun _ => ?_⟩
    cases n with
    | zero => simp at h
    | succ n =>
      simp only [Bool.and_eq_true] at h
      obtain ⟨_, ⟨h1, h2⟩, h3⟩ := h
      have h1 : i ∈ Region.ready .any ops L := by simpa using h1
      intro j hj
      simp only [Plan.alts, List.mem_cons] at hj
      rcases hj with rfl | hj
      · exact ⟨n, rfl, AStepM.mono ha.1 fun s hs => (planM_ok hv p true _ n s h2 (hw.add hv h1) hs).1 rfl⟩
      · exact (planM_ok hv rest false L (n + 1) st h3 hw ha.2).2 rfl j hj
  | .ends, b, L, n, st, h, hw, ha => by
    simp only [planOKM, Bool.not_eq_true'] at h
    exact ⟨fun hb => by rw [hb] at h; simp at h, fun _ i hi => by simp [Plan.alts] at hi⟩
/-- A region that draws its order, by a plan; no row of one's own is appended to. -/
theorem AWP.regionAnyM (ms : List Nat) {id : Nat} {l : List Oper} {Q : Exit → St → Prop} {st : St} (x : Plan) (anc : List (List Nat)) (ds : List Tmp) (hm : E.P.follows .mixedOrders = true)
    (hx : (listedOK l.toArray anc && planOKM E.P l.toArray anc true x (Array.replicate l.toArray.size false) l.toArray.size) = true) (h : APlanM E l.toArray ms (Done (Q .normal)) x (st.keep ds)) : AWP E (.region id l.toArray true) Q st := fun w0 im0 cx a w h0 hG r => by
  simp only [Bool.and_eq_true] at hx
  have r' : Rel w0 im0 cx st a w.drew := ⟨r.defers, r.size, r.tmps, r.below.drew, r.imle, r.imold, r.imok, r.ownlen, fun i g k es h1 h2 => let h3 := r.own i g k es h1 h2; ⟨h3.new, h3.im, h3.blk⟩, r.tklen, r.tail, fun t T b h1 h2 => let h3 := r.tok t T b h1 h2; ⟨h3.new, h3.room, h3.im, h3.blk⟩, r.apart, r.glob, r.up, r.hole⟩
  have r2 := r'.reserve ds.length (l := mkRsv ds st.own.length) (fun d i hmem => (mem_mkRsv hmem).2)
  refine wp_region_any hm (aanyM_sound h0 hG (ms := ms) (K := Done (Q .normal)) (fun a' w' hh => ?_) _ _ (st.keep ds) _ a _ r2 ?_)
  · obtain ⟨c', st', r3, hk⟩ := hh
    exact ⟨c', { st' with rsv := none }, ⟨r3.defers, r3.size, r3.tmps, r3.below, r3.imle, r3.imold, r3.imok, r3.ownlen, r3.own, r3.tklen, r3.tail, r3.tok, r3.apart, r3.glob, r3.up, fun l d i e => by cases e⟩, hk⟩
  · refine (planM_ok hx.1 x true _ _ _ hx.2 ?_ h).1 rfl
    intro m hm
    exfalso
    simp only [Array.getD_eq_getD_getElem?, Array.getElem?_replicate] at hm
    split at hm <;> simp at hm
theorem aplanM_mono {K L : St → Prop} (hk : ∀ s, K s → L s) : ∀ {p : Plan} {st : St}, APlanM E ops ms K p st → APlanM E ops ms L p st
  | .done, _, h => hk _ h
  | .take _ _, _, h => AStepM.mono h fun _ => aplanM_mono hk
  | .fork p, _, h => aplanM_mono (p := p) hk h
  | .alt _ _ r, _, h => ⟨AStepM.mono h.1 fun _ => aplanM_mono hk, aplanM_mono (p := r) hk h.2⟩
  | .ends, _, _ => trivial
@[go_sem] theorem apM_done {st : St} : APlanM E ops ms K .done st = K st := rfl
def AMuO (E : Env) (o : Option Oper) (C : St → Prop) (st : St) : Prop := match o with
  | some o => MuStep E o C st
  | none => False
theorem astepM_eq {i : Nat} {C : St → Prop} {st : St} : AStepM E ops ms i C st = if ms.contains i = true then AMuO E (ops[i]?) C st else (tokOp st ops[i]? ∧ AList E ops (ops[i]?).toList st C) := by
  unfold AStepM
  split
  · cases ops[i]? with
    | none => simp [AMuO]
    | some o => simp [AMuO]
  · rw [astep_list]
@[go_sem] theorem apM_take {st : St} {i : Nat} {p : Plan} : APlanM E ops ms K (.take i p) st = if ms.contains i = true then AMuO E (ops[i]?) (APlanM E ops ms K p) st else (tokOp st ops[i]? ∧ AList E ops (ops[i]?).toList st (APlanM E ops ms K p)) := astepM_eq
@[go_sem] theorem apM_fork {st : St} {p : Plan} : APlanM E ops ms K (.fork p) st = APlanM E ops ms K p st := rfl
@[go_sem] theorem apM_alt {st : St} {i : Nat} {p r : Plan} : APlanM E ops ms K (.alt i p r) st = ((if ms.contains i = true then AMuO E (ops[i]?) (APlanM E ops ms K p) st else (tokOp st ops[i]? ∧ AList E ops (ops[i]?).toList st (APlanM E ops ms K p))) ∧ APlanM E ops ms K r st) := by
  show (AStepM E ops ms i (APlanM E ops ms K p) st ∧ _) = _
  rw [astepM_eq]
@[go_sem] theorem apM_ends {st : St} : APlanM E ops ms K .ends st = True := rfl
def AMuTo (x : AV) (k n : Nat) (src : Option (List AV)) (st : St) (C : St → AV → Prop) : Prop := match x with
  | .mu id q off len cap => q = k ∧ off = 0 ∧ len = 0 ∧ cap = 0 ∧ AGet src fun xs => xs.length ≤ 4611686018427387904 ∧ xs.length * n ≤ 140737488355328 ∧ AGet2 st.own[id]? fun l => l = [] ∧
      ∀ m, C { st with own := st.own.set id none ++ [some (xs ++ spare k m)] } (.mu st.own.length k 0 xs.length (xs.length + m))
  | _ => False
@[go_sem] theorem mu_slice {d : Option Tmp} {t ty : TypeId} {pos : String} {after : Array Edge} {C : St → Prop} {st : St} : AMuO E (some ⟨d, .buildSlice t 0 #[], ty, pos, after, none⟩) C st = AGet (appInfo E.P t) fun q => C (St.put { st with own := st.own ++ [some []] } d (.mu st.own.length q.2.1 0 0 0)) := by
  refine propext ⟨?_, ?_⟩
  · rintro ⟨_, ⟨t', e, k, n, ho, ha, hc⟩ | ⟨_, _, _, _, _, _, _, _, _, ho, _⟩⟩
    · cases ho; exact ⟨_, ha, hc⟩
    · cases ho
  · rintro ⟨⟨e, k, n⟩, ha, hc⟩
    exact ⟨rfl, .inl ⟨t, e, k, n, rfl, ha, hc⟩⟩
@[go_sem] theorem mu_app {d : Option Tmp} {t tx ty : TypeId} {x y : Operand} {pos : String} {after : Array Edge} {C : St → Prop} {st : St} : AMuO E (some ⟨d, .call ⟨.builtin .append, #[x, y], #[t, tx]⟩, ty, pos, after, none⟩) C st =
    (srcTy E.P tx = true ∧ AGet (appInfo E.P t) fun q => AMuTo (st.ev x) q.2.1 q.2.2 (ASrc (st.ev y) q.2.1) st fun st' z => C (st'.put d z)) := by
  refine propext ⟨?_, ?_⟩
  · rintro ⟨_, ⟨_, _, _, _, ho, _⟩ | ⟨t', tx', x', y', e, k, n, id, xs, ho, h1, h2, h3, h4, h5, h6, h7, hc⟩⟩
    · cases ho
    · cases ho
      refine ⟨h1, _, h2, ?_⟩
      rw [h3]
      exact ⟨rfl, rfl, rfl, rfl, _, h4, h6, h7, _, h5, rfl, hc⟩
  · rintro ⟨h1, ⟨e, k, n⟩, h2, h3⟩
    unfold AMuTo at h3
    split at h3
    · rename_i id q off len cap hx
      obtain ⟨rfl, rfl, rfl, rfl, xs, h4, h6, h7, l, h5, rfl, hc⟩ := h3
      exact ⟨rfl, .inr ⟨t, tx, x, y, e, _, n, id, xs, rfl, h1, h2, hx, h4, h5, h6, h7, hc⟩⟩
    · exact h3.elim
end
attribute [go_sem] AMuTo
end Go.Abs

/- A state told behind a piece of code: the rest is walked once, whatever the piece forks into. -/
set_option linter.unusedVariables false
set_option linter.unusedSimpArgs false
namespace Go.Abs
open Go Go.RowKit
structure Cut (p : Prop) : Prop where
  out : p
theorem AWP.cutAt {E : Env} {Q : Exit → St → Prop} {K : St → Prop} {st : St} {x y : Code} {ι : Type} (hv : List Nat) (ps : ι → List (Nat × AV)) (own : ι → List (Option (List AV))) (tk : ι → List Nat) (hK : ∀ s, AWP E y Q s → K s)
    (rest : ∀ i, Cut (AWP E y Q (st.at hv (ps i) (own i) (tk i)))) (h : (∀ i, AWP E y Q (st.at hv (ps i) (own i) (tk i))) → AWP E x (AThen K Q) st) : AWP E x (AThen K Q) st := h fun i => (rest i).out
theorem AWP.cutTo {E : Env} {y : Code} {Q : Exit → St → Prop} {ι : Type} {S : ι → St} (hc : ∀ i, AWP E y Q (S i)) {s : St} (h : AWP E y Q s) : AWP E y Q s := h
end Go.Abs

/- A call of a function that the machine does itself. -/
set_option linter.unusedVariables false
set_option linter.unusedSimpArgs false
namespace Go.Abs
open Go Go.RowKit
theorem AWPL.native {E : Env} {Q : Exit → St → Prop} {st : St} {ops : Array Oper} {l : List Oper} {dst : Option Tmp} {ty : TypeId} {pos : String} {after : Array Edge} {g : FuncId} {args : Array Operand} {tys : Array TypeId} (vs : List Value) (u : Value) (y : AV)
    (hev : args.toList.map st.ev = vs.map AV.v) (hrun : ∀ w, (callFunc g vs.toArray).run E.P w = .ok (.value u) w) (hy : ∀ c, VR c y u)
    (h : AWPL E ops l Q (st.put dst y)) : AWPL E ops (⟨dst, .call ⟨.value (.func g), args, tys⟩, ty, pos, after, none⟩ :: l) Q st := by
  intro w0 im0 cx a w h0 hG r
  refine wpList_step (fun K' hK' => ?_)
  have hw : Region.wanted ⟨dst, .call ⟨.value (.func g), args, tys⟩, ty, pos, after, none⟩ (yielded ops a.tmps) = true := rfl
  rw [if_pos hw]
  have hargs : Array.map a.eval args = vs.toArray := by
    apply Array.ext'
    rw [Array.toList_map]
    have hl : args.toList.length = vs.length := by have := congrArg List.length hev; simpa using this
    apply List.ext_getElem?
    intro i
    rw [List.getElem?_map]
    cases hi : args.toList[i]? with
    | none =>
      have : args.toList.length ≤ i := List.getElem?_eq_none_iff.1 hi
      rw [Option.map_none]; symm; exact List.getElem?_eq_none_iff.2 (by show vs.length ≤ i; omega)
    | some x =>
      have h1 := congrArg (fun l => l[i]?) hev
      simp only [List.getElem?_map, hi, Option.map_some] at h1
      cases hv : vs[i]? with
      | none => rw [hv] at h1; simp at h1
      | some v =>
        rw [hv] at h1
        simp only [Option.map_some, Option.some.injEq] at h1
        have h2 := r.ev x
        rw [h1] at h2
        rw [Option.map_some, h2.inv_v, ← hv]
  refine wp_value (w' := w) (v := u) ?_ (hK' _ _ (h w0 im0 _ _ _ h0 hG (r.put dst (hy _))))
  have he' : a.eval (.func g) = .func (.func g) #[] #[] := rfl
  simp only [execOp, resolve, he', Deferred.ofValue, Sem.run_bind, Sem.run_pure, Result.andThen_ok, invoke, Array.empty_append, Array.append_empty, hargs, hrun]
end Go.Abs

/- Clearing the end of a row of one's own. -/
set_option linter.unusedVariables false
set_option linter.unusedSimpArgs false
namespace Go.Abs
open Go Go.RowKit
theorem zeroCells_mem {z : Array Value} {n : Nat} (h : z.toList.all (·.oneCell') = true) : ∀ u ∈ (Builtin.zeroCells z n).toList, u.oneCell' = true := by
  intro u hu
  obtain ⟨i, hi, rfl⟩ := List.mem_iff_getElem.1 hu
  have hi2 : i < n * z.size := by simpa [Builtin.zeroCells] using hi
  have hz : 0 < z.size := by
    rcases Nat.eq_zero_or_pos z.size with h0 | h0
    · rw [h0] at hi2; simp at hi2
    · exact h0
  have hlt := Nat.mod_lt i hz
  simp only [Builtin.zeroCells, Array.getElem_toList, Array.getElem_map, Array.getElem_range]
  rw [getElem!_pos z _ hlt]
  exact List.all_eq_true.1 h _ (by simp)
theorem AWPL.clearMu {E : Env} {Q : Exit → St → Prop} {st : St} {ops : Array Oper} {l : List Oper} {t ty : TypeId} {x : Operand} {pos : String} {after : Array Edge} {e : TypeId} {k n id len cap : Nat} {A B : List AV}
    (hai : appInfo E.P t = some (e, k, n)) (hone : (((E.P.info? e).bind (·.zero)).map fun zv => zv.cells.toList.all (·.oneCell')) = some true)
    (hs : st.ev x = .mu id k A.length (len + 1) cap) (ho : st.own[id]? = some (some (A ++ B))) (hlen : len + 1 ≤ B.length)
    (h : AWPL E ops l Q { st with own := st.own.set id (some (A ++ spare k B.length)) }) : AWPL E ops (⟨none, .call ⟨.builtin .clear, #[x], #[t]⟩, ty, pos, after, none⟩ :: l) Q st := by
  intro w0 im0 cx a w h0 hG r
  refine wpList_step (fun K' hK' => ?_)
  have hw : Region.wanted ⟨none, .call ⟨.builtin .clear, #[x], #[t]⟩, ty, pos, after, none⟩ (yielded ops a.tmps) = true := rfl
  rw [if_pos hw]
  obtain ⟨hu, hss, hk0, i, zv, hi, hz, hsize, hbytes, hzs⟩ := appInfo_ok hai
  have hv := r.ev x
  rw [hs] at hv
  rcases hv.inv_mu with ⟨g, hb, hcap, hve⟩ | ⟨hz1, _, _⟩
  rotate_left
  · omega
  have hown := r.own id g k _ hb ho
  obtain ⟨cs, ty', lo, hi', hblk, hfr, hsz, hlv, hcell⟩ := hown.blk
  have hoc : OCells cx k (A ++ B) cs.toList := ⟨hlv, fun i e j x he hx => by obtain ⟨u, h1, h2⟩ := hcell i e j x he hx; exact ⟨u, by simpa using h1, h2⟩⟩
  have hoc1 := hoc.take
  rw [List.length_append] at hsz
  have hesz : A.length * k ≤ cs.size := by rw [Nat.add_mul] at hsz; omega
  have hol : (cs.toList.take (A.length * k)).length = A.length * k := by have hq : cs.toList.length = cs.size := Array.length_toList; rw [List.length_take, hq]; omega
  have hfro : ∀ o, o < cs.toList.length → ¬ (lo ≤ o ∧ o < hi') := fun o h1 h2 => by
    have h1 : o < cs.size := by simpa using h1
    rcases hfr with h | h <;> omega
  have hcs : cs = cs.toList.toArray := by simp
  have hz1 : zv.cells.toList.all (·.oneCell') = true := by
    rw [hi] at hone; simp only [Option.bind_some, hz, Option.map_some, Option.some.injEq] at hone; exact hone
  have hnl : (Builtin.zeroCells zv.cells (len + 1)).toList.length = (len + 1) * k := by rw [Array.length_toList, zeroCells_size, hzs]
  have hmul : (len + 1) * k ≤ B.length * k := Nat.mul_le_mul_right _ hlen
  have hfit2 : A.length * k + 0 + (Builtin.zeroCells zv.cells (len + 1)).toList.length ≤ cs.toList.length := by
    have hq : cs.toList.length = cs.size := Array.length_toList
    rw [hnl, hq, Nat.add_zero]; rw [Nat.add_mul] at hsz; omega
  have hst := run_storePut (P := E.P) g (A.length * k) ty' lo hi' (Builtin.zeroCells zv.cells (len + 1)).toList 0 cs.toList w (by rw [← hcs]; exact hblk) hfro hfit2 (zeroCells_mem hz1)
  rw [Nat.add_zero] at hst
  have hrun : (Builtin.clear_ #[t] ty #[a.eval x]).run E.P w = .ok (.tuple #[]) (w.setRow g (putV cs.toList (A.length * k) (Builtin.zeroCells zv.cells (len + 1)).toList).toArray) := by
    rw [hve]
    have hzr : (zeroValue e).run E.P w = .ok zv w := by simp [zeroValue, typeInfo, hi, hz]
    unfold Builtin.clear_
    simp only [List.getElem?_toArray, List.getElem?_cons_zero, Sem.run_bind, underlying_run hu, Result.andThen_ok, hzr]
    (try simp only [add_none, Nat.zero_add] at hst)
    simp [hst]
  have hcs'len : (putV cs.toList (A.length * k) (Builtin.zeroCells zv.cells (len + 1)).toList).length = cs.size := by rw [putV_length]; simp
  have hOC : OCells cx k (A ++ spare k B.length) (putV cs.toList (A.length * k) (Builtin.zeroCells zv.cells (len + 1)).toList) := by
    have e1 : putV cs.toList (A.length * k) (Builtin.zeroCells zv.cells (len + 1)).toList = cs.toList.take (A.length * k) ++ (putV cs.toList (A.length * k) (Builtin.zeroCells zv.cells (len + 1)).toList).drop (A.length * k) := by
      apply List.ext_getElem?
      intro p
      by_cases hp : p < A.length * k
      · rw [List.getElem?_append_left (by rw [hol]; exact hp), putV_get _ _ _ _ (by simpa using hfit2), if_neg (by omega), List.getElem?_take, if_pos hp]
      · rw [List.getElem?_append_right (by rw [hol]; omega), hol, List.getElem?_drop]; congr 1; omega
    rw [e1]
    exact hoc1.append hol (OCells.spare (by rw [List.length_drop, hcs'len]; rw [Nat.add_mul] at hsz; omega))
  have hset := r.setOwn (w' := w.setRow g (putV cs.toList (A.length * k) (Builtin.zeroCells zv.cells (len + 1)).toList).toArray) (es' := A ++ spare k B.length) hb ho (fun b hne => setRow_other w g b _ hne) (below_setRow r.below hown.new _)
    ⟨(putV cs.toList (A.length * k) (Builtin.zeroCells zv.cells (len + 1)).toList).toArray, ty', lo, hi', setRow_heap w g cs _ ty' (lo, hi') hblk, by
      rcases hfr with h | h
      · exact .inl h
      · exact .inr (by simpa [putV_length] using h), by
      simp only [List.size_toArray, hcs'len, List.length_append, spare_len]; exact hsz, hOC.1, fun i e j x he hx => by
      obtain ⟨u, h1, h2⟩ := hOC.2 i e j x he hx
      exact ⟨u, by simpa using h1, h2⟩⟩
  refine wp_value (w' := _) (v := .tuple #[]) ?_ (hK' _ _ (h w0 im0 _ _ _ h0 hG (hset.put none (.base (.v _)))))
  simp only [execOp, resolve, Sem.run_bind, Sem.run_pure, Result.andThen_ok, invoke, builtin, List.map_toArray, List.map_cons, List.map_nil, hrun]
/-- The end of a row of one's own. -/
theorem AWPL.sliceMu {E : Env} {Q : Exit → St → Prop} {st : St} {ops : Array Oper} {rest : List Oper} {dst : Option Tmp} {t ty : TypeId} {x lo : Operand} {pos : String} {after : Array Edge} {e : TypeId} {k id off len cap l : Nat}
    (hu : E.P.underlying t = some (.slice e)) (hsz : tsz E.P e = some k) (hs : st.ev x = .mu id k off len cap) (hl : st.ev lo = i64 (l : Int)) (h1 : l ≤ len) (h2 : l < cap) (h0 : 0 < len)
    (h : AWPL E ops rest Q (st.put dst (.mu id k (off + l) (len - l) (cap - l)))) : AWPL E ops (⟨dst, .slice t x (some lo) none none, ty, pos, after, none⟩ :: rest) Q st := by
  intro w0 im0 cx a w h0' hG r
  refine wpList_step (fun K' hK' => ?_)
  have hw : Region.wanted ⟨dst, .slice t x (some lo) none none, ty, pos, after, none⟩ (yielded ops a.tmps) = true := rfl
  rw [if_pos hw]
  have hv := r.ev x
  rw [hs] at hv
  have hlv := r.ev lo
  rw [hl] at hlv
  have hlo := hlv.inv_v
  rcases hv.inv_mu with ⟨g, hb, hcap, hve⟩ | ⟨hz, _, _⟩
  rotate_left
  · omega
  have hbr := bounds_run (P := E.P) (w := w) (c := cx) (isS := true) (len := len) (cap := cap) (lo := some (i64 (l : Int))) (hi := none) (vl := some (a.eval lo)) (vh := none) (l := (l : Int)) (h := (len : Int))
    (fun y hy => by cases hy; exact ⟨_, rfl, hlv⟩) (fun hy => by cases hy) (fun y hy => by cases hy) (fun _ => rfl) rfl rfl (by omega) (by omega) (by omega) hcap
  have hrun : (Instr.sliceAt t (a.eval x) (some (a.eval lo)) none none).run E.P w = .ok (.slice (some ⟨g, (off + l) * k, none⟩) (len - l) (cap - l)) w := by
    rw [hve]
    simp only [Instr.sliceAt, Sem.run_bind, underlying_run hu, Result.andThen_ok, Instr.slice, hbr, tsz_run hsz, Sem.run_pure]
    have hne : ¬ cap = l := by omega
    simp [hne, Addr.add, Nat.add_mul]
  refine wp_value (w' := w) (v := .slice (some ⟨g, (off + l) * k, none⟩) (len - l) (cap - l)) ?_ (hK' _ _ (h w0 im0 _ _ _ h0' hG (r.put dst (.mu hb (by omega)))))
  simp only [execOp, Option.map_some, Option.map_none, Sem.run_bind, hrun, Result.andThen_ok, Sem.run_pure]
end Go.Abs
