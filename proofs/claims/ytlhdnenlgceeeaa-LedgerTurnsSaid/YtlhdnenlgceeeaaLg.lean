/- Plans where what is appended goes to rows by content: what looks into memory may change places with an append. -/
import Derived.Test.YtlhdnenlgceeeaaLd
set_option linter.unusedVariables false
set_option linter.unusedSimpArgs false
namespace Go.Abs
open Go Go.RowKit
def notMu : AV → Bool
  | .mu _ _ _ _ _ => false
  | _ => true
/-- What is appended to is no row of one's own. -/
def tokOp (st : St) : Option Oper → Prop
  | some o => match o.op with
    | .call cl => match cl.callee, cl.args.toList with
      | .builtin .append, x :: _ => notMu (st.ev x) = true
      | _, _ => True
    | _ => True
  | none => True
def setOp : Op → Bool
  | .store .. => true
  | _ => false
def AStepT (E : Env) (ops : Array Oper) (i : Nat) (C : St → Prop) (st : St) : Prop := tokOp st ops[i]? ∧ AStep E ops i C st
def APlanT (E : Env) (ops : Array Oper) (K : St → Prop) : Plan → St → Prop
  | .done, st => K st
  | .take i p, st => AStepT E ops i (APlanT E ops K p) st
  | .fork p, st => APlanT E ops K p st
  | .alt i p rest, st => AStepT E ops i (APlanT E ops K p) st ∧ APlanT E ops K rest st
  | .ends, _ => True
def AAnyT (E : Env) (ops : Array Oper) (K : St → Prop) : Nat → Array Bool → St → Prop
  | 0, L, st => Region.ready .any ops L = [] ∧ K st
  | n + 1, L, st => (Region.ready .any ops L = [] → K st) ∧ ∀ i ∈ Region.ready .any ops L, AStepT E ops i (AAnyT E ops K n (L.setIfInBounds i true)) st
def swapTB (P : Program) (ops : Array Oper) (p o : Oper) : Bool :=
  (lightOp P p.op && detOp P p.op && (!setOp o.op || !loadOp p.op)) &&
  (match p.dst with | none => true | some d => !(Oper.looksAt ops o).contains d && o.dst != some d) &&
  (match o.dst with | none => true | some d => !(Oper.looksAt ops p).contains d)
def freeT (P : Program) (ops : Array Oper) (anc : List (List Nat)) (L : Array Bool) (p : Nat) : Bool :=
  match ops[p]? with
  | none => false
  | some x => (List.range ops.size).all fun o => o == p || L.getD o true || (anc.getD o []).contains p || (match ops[o]? with | none => true | some y => swapTB P ops x y)
def planOKT (P : Program) (ops : Array Oper) (anc : List (List Nat)) : Bool → Plan → Array Bool → Nat → Bool
  | b, .done, L, _ => b && (Region.ready .any ops L).isEmpty
  | b, .take i p, L, n => b && (match n with | 0 => false | m + 1 => (Region.ready .any ops L).contains i && freeT P ops anc L i && planOKT P ops anc true p (L.setIfInBounds i true) m)
  | b, .fork p, L, n => b && (p.alts == Region.ready .any ops L) && !p.alts.isEmpty && planOKT P ops anc false p L n
  | b, .alt i p rest, L, n => !b && (match n with | 0 => false | m + 1 => (Region.ready .any ops L).contains i && planOKT P ops anc true p (L.setIfInBounds i true) m && planOKT P ops anc false rest L (m + 1))
  | b, .ends, _, _ => !b
section
variable {E : Env} {ops : Array Oper} {K : St → Prop} {anc : List (List Nat)}
theorem AStepT.mono {i : Nat} {C D : St → Prop} {st : St} (hk : AStepT E ops i C st) (h : ∀ s, C s → D s) : AStepT E ops i D st := ⟨hk.1, hk.2.mono h⟩
theorem AAnyT.drop : ∀ {n : Nat} {L : Array Bool} {st : St}, AAnyT E ops K n L st → AAny E ops K n L st
  | 0, _, _, h => h
  | _ + 1, _, _, h => ⟨h.1, fun i hi => (h.2 i hi).2.mono fun _ => AAnyT.drop⟩
theorem tok_light {P : Program} {p : Oper} {st : St} (h : lightOp P p.op = true) : tokOp st (some p) := by
  obtain ⟨dst, op, type, pos, after, guard⟩ := p
  unfold tokOp
  cases op <;> simp only
  case call cl =>
    obtain ⟨callee, args, tys⟩ := cl
    simp only [lightOp] at h
    cases callee with
    | value f => simp at h
    | invoke => simp at h
    | builtin b => cases b <;> simp only at h ⊢ <;> first | trivial | (simp at h; done)
theorem tok_put {st : St} {d : Option Tmp} {y : AV} {o : Oper} (h : ∀ t ∈ Oper.looksAt ops o, d ≠ some t) : tokOp (st.put d y) (some o) = tokOp st (some o) := by
  unfold tokOp
  obtain ⟨dst, op, type, pos, after, guard⟩ := o
  cases op <;> simp only
  case call cl =>
    obtain ⟨callee, args, tys⟩ := cl
    simp only
    split
    · rename_i x xs h1
      rw [ev_put_ne]
      intro t ht
      exact h t (looks_op (by simp [Op.operands, Call.operands]; rw [← Array.mem_toList_iff, h1, ht]; simp))
    · rfl
theorem own_keep {o : Oper} {s : St} {C : St → Prop} (ht : tokOp s (some o)) (hset : setOp o.op = false) (hk : AOp E o s C) : AOp E o s (fun s' => C s' ∧ OwnLe s s') := by
  cases hso : storeOp o.op with
  | false =>
    refine aop_congr (fun _ _ => rfl) rfl rfl rfl rfl hk (fun s' t' hc ha => ?_)
    obtain ⟨z, h1, h2⟩ := ha.at'
    have : t' = s' := by rw [h2, ← h1]
    rw [this]; exact ⟨hc, ha.ext hso⟩
  | true =>
    obtain ⟨dst, op, type, pos, after, guard⟩ := o
    cases op <;> simp only [storeOp, setOp] at hso hset <;> try (simp at hso; done)
    case store => simp at hset
    case call cl =>
      obtain ⟨callee, args, tys⟩ := cl
      simp only at hso
      cases callee with
      | value f => simp at hso
      | invoke => simp at hso
      | builtin b =>
        cases b <;> simp only at hso <;> try (simp at hso; done)
        unfold AOp at hk ⊢
        simp only at hk ⊢
        split at hk
        · rename_i x y t tx hargs htys
          rename_i hcal
          simp only [tokOp, hargs] at ht
          obtain ⟨g1, e, k, n, xs, g2, g3, hk⟩ := hk
          refine ⟨g1, e, k, n, xs, g2, g3, ?_⟩
          split at hk
          · obtain ⟨g4, g5, g6, g7, hk⟩ := hk
            exact ⟨g4, g5, g6, g7, hk, fun id es he => by rw [put_own.1]; exact he⟩
          · obtain ⟨g6, g7, hk⟩ := hk
            exact ⟨g6, g7, hk, fun id es he => by rw [put_own.1]; exact he⟩
          · rename_i hx
            rw [hx] at ht; simp [notMu] at ht
          · exact hk.elim
        · rename_i hh; simp at hh
        · exact (light_mono (fun y hy => ⟨hy, fun id es he => by rw [put_own.1]; exact he⟩) hk)
theorem swapT {i j : Nat} {p o : Oper} {C : St → Prop} {st : St} (hp : ops[i]? = some p) (ho : ops[j]? = some o) (hs : swapTB E.P ops p o = true) (h : AStepT E ops i (AStepT E ops j C) st) : AStepT E ops j (AStepT E ops i C) st := by
  unfold swapTB at hs
  simp only [Bool.and_eq_true] at hs
  obtain ⟨⟨⟨⟨hl, hd⟩, hst⟩, hpo⟩, hop⟩ := hs
  have hpo1 : ∀ t ∈ Oper.looksAt ops o, p.dst ≠ some t := fun t ht e => by
    rw [e] at hpo
    simp only [Bool.and_eq_true, Bool.not_eq_true'] at hpo
    have := hpo.1
    simp [ht] at this
  have hpo2 : ∀ t, p.dst = some t → o.dst ≠ some t := fun t e1 e2 => by
    rw [e1] at hpo
    simp only [Bool.and_eq_true] at hpo
    have := hpo.2
    simp [e2] at this
  have hop1 : ∀ t ∈ Oper.looksAt ops p, o.dst ≠ some t := fun t ht e => by
    rw [e] at hop
    simp [ht] at hop
  have htp : ∀ {C : St → Prop} {s : St}, AStep E ops i C s → AStepT E ops i C s := fun h => ⟨by rw [hp]; exact tok_light hl, h⟩
  have h := h.2
  have h1 : ∃ y, AStepT E ops j C (st.put p.dst y) ∧
      (∀ (C : St → Prop) (t : St), (∀ x ∈ p.op.operands, st.ev x = t.ev x) → AWant ops p t = AWant ops p st → (loadOp p.op = true → OwnLe st t) → C (t.put p.dst y) → AStep E ops i C t) := by
    unfold AStep at h
    rw [hp] at h
    simp only at h
    obtain ⟨q, hq, h2, h3⟩ := h
    cases q with
    | true =>
      have h2 := (light_aop hl).1 (h2 rfl)
      obtain ⟨y, ha, hb⟩ := det_light hd _ h2
      refine ⟨y, ha, fun C t e1 e2 e3 hC => ?_⟩
      unfold AStep
      rw [hp]
      refine ⟨true, by rw [e2]; exact hq, fun _ => (light_aop hl).2 ?_, fun hq => by simp at hq⟩
      exact light_congr e1 e3 (hb (fun z => C (t.put p.dst z)) hC)
    | false =>
      refine ⟨.v undef, h3 rfl, fun C t e1 e2 e3 hC => ?_⟩
      unfold AStep
      rw [hp]
      exact ⟨false, by rw [e2]; exact hq, fun hq => by simp at hq, fun _ => hC⟩
  obtain ⟨y, h2, key⟩ := h1
  have hwp : ∀ {t : St} {own : List (Option (List AV))} {tk : List Nat} {rv : Option (List (Tmp × Nat))} {z : AV}, t = St.put { st with own := own, tk := tk, rsv := rv } o.dst z → AWant ops p t = AWant ops p st := fun {t own tk rv z} e => by
    rw [e, want_put_ne hop1]; rfl
  have hevp : ∀ {t : St} {own : List (Option (List AV))} {tk : List Nat} {rv : Option (List (Tmp × Nat))} {z : AV}, t = St.put { st with own := own, tk := tk, rsv := rv } o.dst z → ∀ x ∈ p.op.operands, st.ev x = t.ev x := fun {t own tk rv z} e x hx => by
    rw [e, ev_put_ne (fun u hu => hop1 u (looks_op (hu ▸ hx)))]
    cases x <;> rfl
  obtain ⟨ht, h2⟩ := h2
  rw [ho] at ht
  have ht' : tokOp st (some o) := by rwa [tok_put hpo1] at ht
  refine ⟨by rw [ho]; exact ht', ?_⟩
  unfold AStep at h2 ⊢
  rw [ho] at h2 ⊢
  simp only at h2 ⊢
  obtain ⟨q, hq, h3, h4⟩ := h2
  rw [want_put_ne hpo1] at hq
  refine ⟨q, hq, fun e => ?_, fun e => ?_⟩
  · have h5 : AOp E o (st.put p.dst y) (fun s' => C s' ∧ (loadOp p.op = true → OwnLe (st.put p.dst y) s')) := by
      cases hset : setOp o.op with
      | false => exact aop_mono (own_keep ht hset (h3 e)) fun s' hs' => ⟨hs'.1, fun _ => hs'.2⟩
      | true => exact aop_mono (h3 e) fun s' hs' => ⟨hs', fun hload => by simp [hset, hload] at hst⟩
    refine aop_congr (t := st) (fun x hx => ev_put_ne (fun u hu => hpo1 u (looks_op (hu ▸ hx)))) put_own.1 put_own.2.1 put_own.2.2.1 put_own.2.2.2 h5 (fun s' t' hc ha => ?_)
    obtain ⟨z, e1, e2⟩ := ha.at'
    rw [put_with] at e1
    have hC : C (t'.put p.dst y) := by
      rw [e2, ← put_comm (fun t h1 h2 => hpo2 t h1 h2), ← e1]
      exact hc.1
    exact htp (key C t' (hevp e2) (hwp e2) (fun hload => by
      have := hc.2 hload
      intro id es he
      rw [ha.own]
      exact this id es (by rw [put_own.1]; exact he)) hC)
  · have h4 := h4 e
    rw [put_comm (fun t h1 h2 => hpo2 t h1 h2)] at h4
    have e2 : st.put o.dst (.v undef) = St.put { st with own := st.own, tk := st.tk, rsv := st.rsv } o.dst (.v undef) := rfl
    exact htp (key C (st.put o.dst (.v undef)) (hevp e2) (hwp e2) (fun _ id es he => by rw [put_own.1]; exact he) h4)
theorem freeT_swap (hv : listedOK ops anc = true) {L : Array Bool} (hw : WfL anc L) {p o : Nat} (hf : freeT E.P ops anc L p = true) (hp : p ∈ Region.ready .any ops L) (ho : o ∈ Region.ready .any ops L) (hne : o ≠ p) :
    ∃ x y, ops[p]? = some x ∧ ops[o]? = some y ∧ swapTB E.P ops x y = true := by
  obtain ⟨hpl, x, hx, _⟩ := mem_ready.1 hp
  obtain ⟨hol, y, hy, _⟩ := mem_ready.1 ho
  refine ⟨x, y, hx, hy, ?_⟩
  unfold freeT at hf
  simp only [hx, List.all_eq_true, List.mem_range, Bool.or_eq_true, beq_iff_eq] at hf
  have hlt : o < ops.size := (Array.getElem?_eq_some_iff.1 hy).1
  have := hf o hlt
  rcases this with ((h | h) | h) | h
  · exact absurd h hne
  · rw [hol] at h; simp at h
  · have := anc_listed hv hw ho p (by simpa using h)
    have h2 : L.getD p true = true := by
      simp only [Array.getD_eq_getD_getElem?] at this ⊢
      cases hh : L[p]? with
      | none => simp
      | some b => simpa [hh] using this
    rw [hpl] at h2; simp at h2
  · simpa [hy] using h
theorem freeT_mono {L : Array Bool} {p o : Nat} (hf : freeT E.P ops anc L p = true) : freeT E.P ops anc (L.setIfInBounds o true) p = true := by
  unfold freeT at *
  split at hf
  · simp at hf
  · rename_i x hx
    rw [List.all_eq_true] at *
    intro q hq
    have := hf q hq
    simp only [Bool.or_eq_true] at this ⊢
    rcases this with ((h | h) | h) | h
    · exact .inl (.inl (.inl h))
    · refine .inl (.inl (.inr ?_))
      by_cases e : o = q
      · subst e
        simp only [Array.getD_eq_getD_getElem?] at h ⊢
        rw [Array.getElem?_setIfInBounds, if_pos rfl]
        split <;> simp
      · rwa [getD_set_ne true e]
    · exact .inl (.inr h)
    · exact .inr h
theorem astepT_false {i : Nat} {p o : Oper} {st : St} (hp : ops[i]? = some p) (hs : swapTB E.P ops p o = true) (h : AStepT E ops i (fun _ => False) st) : False := by
  have h := h.2
  rw [astep_some hp] at h
  obtain ⟨q, h1, h2, h3⟩ := h
  cases q with
  | false => exact h3 rfl
  | true =>
    have h2 := h2 rfl
    unfold swapTB at hs
    simp only [Bool.and_eq_true] at hs
    obtain ⟨y, hy, _⟩ := det_light hs.1.1.1.2 _ ((light_aop hs.1.1.1.1).1 h2)
    exact hy
theorem takeT_ok (hv : listedOK ops anc = true) {p : Nat} : ∀ (n : Nat) (L : Array Bool) (st : St), WfL anc L → freeT E.P ops anc L p = true → p ∈ Region.ready .any ops L →
    AStepT E ops p (AAnyT E ops K n (L.setIfInBounds p true)) st → AAnyT E ops K (n + 1) L st
  | n, L, st, hw, hf, hp, h => by
    refine ⟨fun e => (by rw [e] at hp; simp at hp), fun o ho => ?_⟩
    by_cases hne : o = p
    · subst hne; exact h
    · obtain ⟨x, y, hx, hy, hs⟩ := freeT_swap (E := E) hv hw hf hp ho hne
      have ho' := ready_add ho hne (o := p)
      cases n with
      | zero =>
        exfalso
        have : ∀ st', AAnyT E ops K 0 (L.setIfInBounds p true) st' → False := fun st' h' => by
          have := h'.1
          rw [this] at ho'; simp at ho'
        exact astepT_false hx hs (h.mono (D := fun _ => False) this)
      | succ m =>
        have h2 : AStepT E ops p (AStepT E ops o (AAnyT E ops K m ((L.setIfInBounds p true).setIfInBounds o true))) st := h.mono fun s hs' => hs'.2 o ho'
        have h3 := swapT hx hy hs h2
        refine h3.mono fun s hs' => ?_
        rw [set_comm] at hs'
        exact takeT_ok hv m _ s (hw.add hv ho) (freeT_mono hf) (ready_add hp (fun e => hne e.symm)) hs'
theorem planT_ok (hv : listedOK ops anc = true) : ∀ (x : Plan) (b : Bool) (L : Array Bool) (n : Nat) (st : St), planOKT E.P ops anc b x L n = true → WfL anc L → APlanT E ops K x st →
    (b = true → AAnyT E ops K n L st) ∧ (b = false → ∀ i ∈ x.alts, ∃ m, n = m + 1 ∧ AStepT E ops i (AAnyT E ops K m (L.setIfInBounds i true)) st)
  | .done, b, L, n, st, h, hw, ha => by
    simp only [planOKT, Bool.and_eq_true, List.isEmpty_iff] at h
    refine ⟨fun _ => ?_, fun hb => by rw [hb] at h; simp at h⟩
    cases n with
    | zero => exact ⟨h.2, ha⟩
    | succ n => exact ⟨fun _ => ha, fun i hi => by rw [h.2] at hi; simp at hi⟩
  | .take i p, b, L, n, st, h, hw, ha => by
    simp only [planOKT, Bool.and_eq_true] at h
    refine ⟨fun _ => ?_, fun hb => by rw [hb] at h; simp at h⟩
    cases n with
    | zero => simp at h
    | succ n =>
      simp only [Bool.and_eq_true] at h
      obtain ⟨_, ⟨h1, h2⟩, h3⟩ := h
      have h1 : i ∈ Region.ready .any ops L := by simpa using h1
      refine takeT_ok hv n L st hw h2 h1 ?_
      exact AStepT.mono ha fun s hs => (planT_ok hv p true _ n s h3 (hw.add hv h1) hs).1 rfl
  | .fork p, b, L, n, st, h, hw, ha => by
    simp only [planOKT, Bool.and_eq_true, beq_iff_eq, Bool.not_eq_true', List.isEmpty_eq_false_iff] at h
    obtain ⟨⟨⟨hb, h1⟩, h2⟩, h3⟩ := h
    refine ⟨fun _ => ?_, fun hb' => by rw [hb'] at hb; simp at hb⟩
    have := (planT_ok hv p false L n st h3 hw ha).2 rfl
    obtain ⟨i0, hi0⟩ := List.exists_mem_of_ne_nil _ h2
    obtain ⟨n', rfl, _⟩ := this i0 hi0
    refine ⟨fun e => by rw [h1, e] at hi0; simp at hi0, fun i hi => ?_⟩
    obtain ⟨m, e, hm⟩ := this i (by rw [h1]; exact hi)
    have : m = n' := by omega
    subst this
    exact hm
  | .alt i p rest, b, L, n, st, h, hw, ha => by
    simp only [planOKT, Bool.and_eq_true, Bool.not_eq_true'] at h
    refine ⟨fun hb => by rw [hb] at h; simp at h, fun _ => ?_⟩
    cases n with
    | zero => simp at h
    | succ n =>
      simp only [Bool.and_eq_true] at h
      obtain ⟨_, ⟨h1, h2⟩, h3⟩ := h
      have h1 : i ∈ Region.ready .any ops L := by simpa using h1
      intro j hj
      simp only [Plan.alts, List.mem_cons] at hj
      rcases hj with rfl | hj
      · exact ⟨n, rfl, AStepT.mono ha.1 fun s hs => (planT_ok hv p true _ n s h2 (hw.add hv h1) hs).1 rfl⟩
      · exact (planT_ok hv rest false L (n + 1) st h3 hw ha.2).2 rfl j hj
  | .ends, b, L, n, st, h, hw, ha => by
    simp only [planOKT, Bool.not_eq_true'] at h
    exact ⟨fun hb => by rw [hb] at h; simp at h, fun _ i hi => by simp [Plan.alts] at hi⟩
/-- A region that draws its order, by a plan; no row of one's own is appended to. -/
theorem AWP.regionAnyT {id : Nat} {l : List Oper} {Q : Exit → St → Prop} {st : St} (x : Plan) (anc : List (List Nat)) (ds : List Tmp) (hm : E.P.follows .mixedOrders = true)
    (hx : (listedOK l.toArray anc && planOKT E.P l.toArray anc true x (Array.replicate l.toArray.size false) l.toArray.size) = true) (h : APlanT E l.toArray (Done (Q .normal)) x (st.keep ds)) : AWP E (.region id l.toArray true) Q st := fun w0 im0 cx a w h0 hG r => by
  simp only [Bool.and_eq_true] at hx
  have r' : Rel w0 im0 cx st a w.drew := ⟨r.defers, r.size, r.tmps, r.below.drew, r.imle, r.imold, r.imok, r.ownlen, fun i g k es h1 h2 => let h3 := r.own i g k es h1 h2; ⟨h3.new, h3.im, h3.blk⟩, r.tklen, r.tail, fun t T b h1 h2 => let h3 := r.tok t T b h1 h2; ⟨h3.new, h3.room, h3.im, h3.blk⟩, r.apart, r.glob, r.up, r.hole⟩
  have r2 := r'.reserve ds.length (l := mkRsv ds st.own.length) (fun d i hmem => (mem_mkRsv hmem).2)
  refine wp_region_any hm (aany_sound h0 hG (K := Done (Q .normal)) (fun a' w' hh => ?_) _ _ (st.keep ds) _ a _ r2 ?_)
  · obtain ⟨c', st', r3, hk⟩ := hh
    exact ⟨c', { st' with rsv := none }, ⟨r3.defers, r3.size, r3.tmps, r3.below, r3.imle, r3.imold, r3.imok, r3.ownlen, r3.own, r3.tklen, r3.tail, r3.tok, r3.apart, r3.glob, r3.up, fun l d i e => by cases e⟩, hk⟩
  · refine ((planT_ok hx.1 x true _ _ _ hx.2 ?_ h).1 rfl).drop
    intro m hm
    exfalso
    simp only [Array.getD_eq_getD_getElem?, Array.getElem?_replicate] at hm
    split at hm <;> simp at hm
theorem aplanT_mono {K L : St → Prop} (hk : ∀ s, K s → L s) : ∀ {p : Plan} {st : St}, APlanT E ops K p st → APlanT E ops L p st
  | .done, _, h => hk _ h
  | .take _ _, _, h => AStepT.mono h fun _ => aplanT_mono hk
  | .fork p, _, h => aplanT_mono (p := p) hk h
  | .alt _ _ r, _, h => ⟨AStepT.mono h.1 fun _ => aplanT_mono hk, aplanT_mono (p := r) hk h.2⟩
  | .ends, _, _ => trivial
@[go_sem] theorem apT_done {st : St} : APlanT E ops K .done st = K st := rfl
@[go_sem] theorem apT_take {st : St} {i : Nat} {p : Plan} : APlanT E ops K (.take i p) st = (tokOp st ops[i]? ∧ AList E ops (ops[i]?).toList st (APlanT E ops K p)) := by
  show (_ ∧ AStep E ops i (APlanT E ops K p) st) = _
  rw [astep_list]
@[go_sem] theorem apT_fork {st : St} {p : Plan} : APlanT E ops K (.fork p) st = APlanT E ops K p st := rfl
@[go_sem] theorem apT_alt {st : St} {i : Nat} {p r : Plan} : APlanT E ops K (.alt i p r) st = ((tokOp st ops[i]? ∧ AList E ops (ops[i]?).toList st (APlanT E ops K p)) ∧ APlanT E ops K r st) := by
  show ((_ ∧ AStep E ops i (APlanT E ops K p) st) ∧ _) = _
  rw [astep_list]
@[go_sem] theorem apT_ends {st : St} : APlanT E ops K .ends st = True := rfl
end
attribute [go_sem] tokOp notMu
end Go.Abs
