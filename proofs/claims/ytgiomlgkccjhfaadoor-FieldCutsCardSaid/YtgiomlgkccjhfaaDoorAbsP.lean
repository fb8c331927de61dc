/- Plans: how a region that draws its order is walked, once for all orders. -/
import Derived.Test.YtgiomlgkccjhfaaDoorAbsO
namespace Go.Abs
open Go Go.RowKit
set_option linter.unusedVariables false
set_option linter.unusedSimpArgs false

/-- What a region's walk takes next. fork: whatever is ready may come. -/
inductive Plan where
  | done
  | take (i : Nat) (p : Plan)
  | fork (p : Plan)
  | alt (i : Nat) (p : Plan) (rest : Plan)
  | ends

def Plan.alts : Plan → List Nat
  | .alt i _ rest => i :: rest.alts
  | _ => []

def allocOp : Op → Bool
  | .alloc _ => true
  | _ => false
/-- May they change places? p only looks, o may do anything (but store, if p looks into memory); or p is a new variable, o doesn't store, nor load. -/
def swapOK (P : Program) (ops : Array Oper) (p o : Oper) : Bool :=
  ((lightOp P p.op && detOp P p.op && (!storeOp o.op || !loadOp p.op)) || (allocOp p.op && p.dst.isSome && !storeOp o.op && !loadOp o.op)) &&
  (match p.dst with | none => true | some d => !(Oper.looksAt ops o).contains d && o.dst != some d) &&
  (match o.dst with | none => true | some d => !(Oper.looksAt ops p).contains d)

def listedOK (ops : Array Oper) (anc : List (List Nat)) : Bool :=
  (List.range ops.size).all fun o => (anc.getD o []).all fun p =>
    match ops[o]? with
    | none => false
    | some x => x.after.toList.any fun e => Region.binds .any e && (e.on == p || (anc.getD e.on []).contains p)

def freeB (P : Program) (ops : Array Oper) (anc : List (List Nat)) (L : Array Bool) (p : Nat) : Bool :=
  match ops[p]? with
  | none => false
  | some x => (List.range ops.size).all fun o => o == p || L.getD o true || (anc.getD o []).contains p || (match ops[o]? with | none => true | some y => swapOK P ops x y)

def planOK (P : Program) (ops : Array Oper) (anc : List (List Nat)) : Bool → Plan → Array Bool → Nat → Bool
  | b, .done, L, _ => b && (Region.ready .any ops L).isEmpty
  | b, .take i p, L, n => b && (match n with | 0 => false | m + 1 => (Region.ready .any ops L).contains i && freeB P ops anc L i && planOK P ops anc true p (L.setIfInBounds i true) m)
  | b, .fork p, L, n => b && (p.alts == Region.ready .any ops L) && !p.alts.isEmpty && planOK P ops anc false p L n
  | b, .alt i p rest, L, n => !b && (match n with | 0 => false | m + 1 => (Region.ready .any ops L).contains i && planOK P ops anc true p (L.setIfInBounds i true) m && planOK P ops anc false rest L (m + 1))
  | b, .ends, _, _ => !b

def AStep (E : Env) (ops : Array Oper) (i : Nat) (C : St → Prop) (st : St) : Prop :=
  match ops[i]? with
  | none => C st
  | some o => ∃ q, AWant ops o st = some q ∧ (q = true → AOp E o st C) ∧ (q = false → C (st.put o.dst (.v undef)))

def APlan (E : Env) (ops : Array Oper) (K : St → Prop) : Plan → St → Prop
  | .done, st => K st
  | .take i p, st => AStep E ops i (APlan E ops K p) st
  | .fork p, st => APlan E ops K p st
  | .alt i p rest, st => AStep E ops i (APlan E ops K p) st ∧ APlan E ops K rest st
  | .ends, _ => True

def AAny (E : Env) (ops : Array Oper) (K : St → Prop) : Nat → Array Bool → St → Prop
  | 0, L, st => Region.ready .any ops L = [] ∧ K st
  | n + 1, L, st => (Region.ready .any ops L = [] → K st) ∧ ∀ i ∈ Region.ready .any ops L, AStep E ops i (AAny E ops K n (L.setIfInBounds i true)) st

section
variable {E : Env} {ops : Array Oper} {K : St → Prop} {anc : List (List Nat)}

theorem aop_mono {o : Oper} {s : St} {C D : St → Prop} (hk : AOp E o s C) (h : ∀ s', C s' → D s') : AOp E o s D := by
  refine aop_congr (fun _ _ => rfl) rfl rfl rfl rfl hk (fun s' t' hc ha => ?_)
  obtain ⟨z, h1, h2⟩ := ha.at'
  rw [h2, ← h1]; exact h _ hc

theorem AStep.mono {i : Nat} {C D : St → Prop} {st : St} (hk : AStep E ops i C st) (h : ∀ s, C s → D s) : AStep E ops i D st := by
  unfold AStep at *
  split
  · rename_i h0; rw [h0] at hk; exact h _ hk
  · rename_i o h0
    rw [h0] at hk
    obtain ⟨q, h1, h2, h3⟩ := hk
    exact ⟨q, h1, fun hq => aop_mono (h2 hq) h, fun hq => h _ (h3 hq)⟩

theorem aany_sound {w0 : World} {im0 : Im} (h0 : E.ok w0) (hG : GOK E im0) {Q : Exit → Act → World → Prop} (hQ : ∀ a w, Hands w0 im0 K a w → Q .normal a w) : ∀ (n : Nat) (L : Array Bool) (st : St) (c : Ctx) (a : Act) (w : World),
    Rel w0 im0 c st a w → AAny E ops K n L st → wpAny E.P .any ops Q n L a w
  | 0, _, st, c, _, _, r, h => ⟨h.1, hQ _ _ ⟨c, st, r, h.2⟩⟩
  | n + 1, L, st, c, a, w, r, h => by
    refine ⟨fun he => hQ _ _ ⟨c, st, r, h.1 he⟩, fun i hi => ?_⟩
    have h1 := h.2 i hi
    unfold AStep at h1
    unfold wpOp
    cases hop : ops[i]? with
    | none => obtain ⟨_, o, ho, _⟩ := mem_ready.1 hi; rw [hop] at ho; simp at ho
    | some o =>
      rw [hop] at h1
      obtain ⟨q, hq, h2, h3⟩ := h1
      have hw := want_ok r hq
      simp only []
      rw [hw]
      cases q with
      | true =>
        simp only [if_true]
        exact .inl (Oper.wp_mono (fun a' w' ⟨c', st', r', h'⟩ => aany_sound h0 hG hQ n _ st' c' a' w' r' h') (aop_sound h0 hG r (h2 rfl)))
      | false =>
        simp only [Bool.false_eq_true, if_false]
        exact aany_sound h0 hG hQ n _ _ c _ _ (r.put o.dst (.base (.v undef))) (h3 rfl)

theorem ev_put_ne {st : St} {d : Option Tmp} {y : AV} {x : Operand} (h : ∀ t, x = .tmp t → d ≠ some t) : (st.put d y).ev x = st.ev x := by
  cases d with
  | none => rfl
  | some d =>
    cases x with
    | tmp t =>
      have : d ≠ t := fun e => h t rfl (by rw [e])
      simp [St.ev, St.put, List.getD_eq_getElem?_getD, List.getElem?_set_ne this]
    | const => rfl
    | global g => rfl
    | func f => rfl

theorem want_put_ne {st : St} {d : Option Tmp} {y : AV} {o : Oper} (h : ∀ t ∈ Oper.looksAt ops o, d ≠ some t) : AWant ops o (st.put d y) = AWant ops o st := by
  unfold AWant
  cases hg : o.guard with
  | none => rfl
  | some g =>
    obtain ⟨j, want⟩ := g
    simp only []
    cases hd : (ops[j]?).bind (·.dst) with
    | none => rfl
    | some u =>
      have : d ≠ some u := h u (by simp [Oper.looksAt, hg, hd])
      have e : (st.put d y).tmps.getD u .any = st.tmps.getD u .any := by
        cases d with
        | none => rfl
        | some d =>
          have : d ≠ u := fun e => this (by rw [e])
          simp [St.put, List.getD_eq_getElem?_getD, List.getElem?_set_ne this]
      simp only [e]

theorem looks_op {o : Oper} {t : Tmp} (h : Operand.tmp t ∈ o.op.operands) : t ∈ Oper.looksAt ops o := by
  simp only [Oper.looksAt, List.mem_append, List.mem_filterMap]
  exact .inl ⟨.tmp t, by simpa using h, rfl⟩

theorem put_comm {st : St} {d e : Option Tmp} {x y : AV} (h : ∀ t, d = some t → e ≠ some t) : (st.put d x).put e y = (st.put e y).put d x := by
  cases d with
  | none => rfl
  | some d =>
    cases e with
    | none => rfl
    | some e =>
      have : d ≠ e := fun he => h d rfl (by rw [he])
      simp [St.put, List.set_comm _ _ this]

theorem put_with {st : St} {d : Option Tmp} {x : AV} {own : List (Option (List AV))} {tk : List Nat} {rv : Option (List (Tmp × Nat))} : ({ st.put d x with own := own, tk := tk, rsv := rv } : St) = St.put { st with own := own, tk := tk, rsv := rv } d x := by cases d <;> rfl

theorem swap_light {i j : Nat} {p o : Oper} {C : St → Prop} {st : St} (hp : ops[i]? = some p) (ho : ops[j]? = some o) (hl : lightOp E.P p.op = true) (hd : detOp E.P p.op = true) (hst : (!storeOp o.op || !loadOp p.op) = true)
    (hpo : (match p.dst with | none => true | some d => !(Oper.looksAt ops o).contains d && o.dst != some d) = true) (hop : (match o.dst with | none => true | some d => !(Oper.looksAt ops p).contains d) = true)
    (h : AStep E ops i (AStep E ops j C) st) : AStep E ops j (AStep E ops i C) st := by
  have hpo1 : ∀ t ∈ Oper.looksAt ops o, p.dst ≠ some t := fun t ht e => by
    rw [e] at hpo
    simp only [Bool.and_eq_true, Bool.not_eq_true'] at hpo
    have := hpo.1
    simp [ht] at this
  have hpo2 : ∀ t, p.dst = some t → o.dst ≠ some t := fun t e1 e2 => by
    rw [e1] at hpo
    simp only [Bool.and_eq_true] at hpo
    have := hpo.2
    simp [e2] at this
  have hop1 : ∀ t ∈ Oper.looksAt ops p, o.dst ≠ some t := fun t ht e => by
    rw [e] at hop
    simp [ht] at hop
  -- p is one value
  have h1 : ∃ y, (∀ C : St → Prop, C (st.put p.dst y) → AStep E ops i C st) ∧ AStep E ops j C (st.put p.dst y) ∧
      (∀ (C : St → Prop) (t : St), (∀ x ∈ p.op.operands, st.ev x = t.ev x) → AWant ops p t = AWant ops p st → (loadOp p.op = true → OwnLe st t) → C (t.put p.dst y) → AStep E ops i C t) := by
    unfold AStep at h
    rw [hp] at h
    simp only at h
    obtain ⟨q, hq, h2, h3⟩ := h
    cases q with
    | true =>
      have h2 := (light_aop hl).1 (h2 rfl)
      obtain ⟨y, ha, hb⟩ := det_light hd _ h2
      have key : ∀ (C : St → Prop) (t : St), (∀ x ∈ p.op.operands, st.ev x = t.ev x) → AWant ops p t = AWant ops p st → (loadOp p.op = true → OwnLe st t) → C (t.put p.dst y) → AStep E ops i C t := fun C t e1 e2 e3 hC => by
        unfold AStep
        rw [hp]
        refine ⟨true, by rw [e2]; exact hq, fun _ => (light_aop hl).2 ?_, fun hq => by simp at hq⟩
        exact light_congr e1 e3 (hb (fun z => C (t.put p.dst z)) hC)
      exact ⟨y, fun C hC => key C st (fun _ _ => rfl) rfl (fun _ => .refl _) hC, by unfold AStep; exact ha, key⟩
    | false =>
      have key : ∀ (C : St → Prop) (t : St), (∀ x ∈ p.op.operands, st.ev x = t.ev x) → AWant ops p t = AWant ops p st → (loadOp p.op = true → OwnLe st t) → C (t.put p.dst (.v undef)) → AStep E ops i C t := fun C t e1 e2 e3 hC => by
        unfold AStep
        rw [hp]
        exact ⟨false, by rw [e2]; exact hq, fun hq => by simp at hq, fun _ => hC⟩
      exact ⟨.v undef, fun C hC => key C st (fun _ _ => rfl) rfl (fun _ => .refl _) hC, by unfold AStep; exact h3 rfl, key⟩
  obtain ⟨y, _, h2, key⟩ := h1
  have hwp : ∀ {t : St} {own : List (Option (List AV))} {tk : List Nat} {rv : Option (List (Tmp × Nat))} {z : AV}, t = St.put { st with own := own, tk := tk, rsv := rv } o.dst z → AWant ops p t = AWant ops p st := fun {t own tk rv z} e => by
    rw [e, want_put_ne hop1]; rfl
  have hevp : ∀ {t : St} {own : List (Option (List AV))} {tk : List Nat} {rv : Option (List (Tmp × Nat))} {z : AV}, t = St.put { st with own := own, tk := tk, rsv := rv } o.dst z → ∀ x ∈ p.op.operands, st.ev x = t.ev x := fun {t own tk rv z} e x hx => by
    rw [e, ev_put_ne (fun u hu => hop1 u (looks_op (hu ▸ hx)))]
    cases x <;> rfl
  unfold AStep at h2 ⊢
  rw [ho] at h2 ⊢
  simp only at h2 ⊢
  obtain ⟨q, hq, h3, h4⟩ := h2
  rw [want_put_ne hpo1] at hq
  refine ⟨q, hq, fun e => ?_, fun e => ?_⟩
  · refine aop_congr (t := st) (fun x hx => ev_put_ne (fun u hu => hpo1 u (looks_op (hu ▸ hx)))) put_own.1 put_own.2.1 put_own.2.2.1 put_own.2.2.2 (h3 e) (fun s' t' hc ha => ?_)
    obtain ⟨z, e1, e2⟩ := ha.at'
    rw [put_with] at e1
    have hC : C (t'.put p.dst y) := by
      rw [e2, ← put_comm (fun t h1 h2 => hpo2 t h1 h2), ← e1]
      exact hc
    have := key C t' (hevp e2) (hwp e2) (fun hload => by
      have hns : storeOp o.op = false := by
        cases hso : storeOp o.op with
        | false => rfl
        | true => simp [hso, hload] at hst
      have := ha.ext hns
      intro id es he
      rw [ha.own]
      exact this id es (by rw [put_own.1]; exact he)) hC
    unfold AStep at this
    exact this
  · have h4 := h4 e
    rw [put_comm (fun t h1 h2 => hpo2 t h1 h2)] at h4
    have e2 : st.put o.dst (.v undef) = St.put { st with own := st.own, tk := st.tk, rsv := st.rsv } o.dst (.v undef) := rfl
    have := key C (st.put o.dst (.v undef)) (hevp e2) (hwp e2) (fun _ id es he => by rw [put_own.1]; exact he) h4
    unfold AStep at this
    exact this


/-! ### a new variable at a place that is kept for it -/

structure GoodR (l : List (Tmp × Nat)) : Prop where
  fst : ∀ (t i j : Nat), (t, i) ∈ l → (t, j) ∈ l → i = j
  snd : ∀ (t u i : Nat), (t, i) ∈ l → (u, i) ∈ l → t = u
theorem GoodR.drop {l : List (Tmp × Nat)} (h : GoodR l) (i : Nat) : GoodR (dropR i l) :=
  ⟨fun t a b h1 h2 => h.fst t a b (mem_dropR.1 h1).1 (mem_dropR.1 h2).1, fun t u a h1 h2 => h.snd t u a (mem_dropR.1 h1).1 (mem_dropR.1 h2).1⟩
theorem lookN_of_mem {l : List (Tmp × Nat)} (h : ∀ (t i j : Nat), (t, i) ∈ l → (t, j) ∈ l → i = j) {t : Tmp} {i : Nat} (hm : (t, i) ∈ l) : lookN t l = some i := by
  induction l with
  | nil => simp at hm
  | cons p l ih =>
    unfold lookN
    by_cases e : t = p.1
    · rw [if_pos e]
      have : (t, p.2) ∈ p :: l := by subst e; exact List.mem_cons_self ..
      rw [h t p.2 i this hm]
    · rw [if_neg e]
      rcases List.mem_cons.1 hm with rfl | hm
      · exact absurd rfl e
      · exact ih (fun t i j h1 h2 => h t i j (List.mem_cons_of_mem _ h1) (List.mem_cons_of_mem _ h2)) hm
theorem dropR_comm (i j : Nat) : ∀ l : List (Tmp × Nat), dropR i (dropR j l) = dropR j (dropR i l)
  | [] => rfl
  | p :: l => by
    have ih := dropR_comm i j l
    by_cases h1 : p.2 = i <;> by_cases h2 : p.2 = j
    · simp only [dropR, if_pos h1, if_pos h2]; exact ih
    · simp only [dropR, if_pos h1, if_neg h2]; exact ih
    · simp only [dropR, if_neg h1, if_pos h2]; exact ih
    · simp only [dropR, if_neg h1, if_neg h2]; rw [ih]

theorem put_put {tl ow tk gl rv} {d e : Option Tmp} {x y : AV} (h : ∀ t, d = some t → e ≠ some t) : (St.put ⟨tl, ow, tk, gl, rv⟩ d x).put e y = (St.put ⟨tl, ow, tk, gl, rv⟩ e y).put d x := put_comm h

/-- An operation beside a place that is filled. -/
theorem aop_frame {o : Oper} {tl sl : List AV} {ow : List (Option (List AV))} {tk : List Nat} {gl : Nat → Option (List AV)} {l : List (Tmp × Nat)} {id : Nat} {a : List AV} {d : Tmp} {C D : St → Prop}
    (hst : storeOp o.op = false) (hld : loadOp o.op = false) (h : ∀ x ∈ o.op.operands, St.ev ⟨tl, ow.set id (some a), tk, gl, some (dropR id l)⟩ x = St.ev ⟨sl, ow, tk, gl, some l⟩ x) (hn : ow[id]? = some none) (hd : (d, id) ∈ l) (hg : GoodR l) (hdo : o.dst ≠ some d)
    (hk : AOp E o ⟨tl, ow.set id (some a), tk, gl, some (dropR id l)⟩ C)
    (hD : ∀ ow' tk' l' z, ow'[id]? = some none → (d, id) ∈ l' → GoodR l' → C (St.put ⟨tl, ow'.set id (some a), tk', gl, some (dropR id l')⟩ o.dst z) → D (St.put ⟨sl, ow', tk', gl, some l'⟩ o.dst z)) : AOp E o ⟨sl, ow, tk, gl, some l⟩ D := by
  have hlt : id < ow.length := (List.getElem?_eq_some_iff.1 hn).1
  have light : ALight E.P ⟨tl, ow.set id (some a), tk, gl, some (dropR id l)⟩ o.op (fun y => C (St.put ⟨tl, ow.set id (some a), tk, gl, some (dropR id l)⟩ o.dst y)) → ALight E.P ⟨sl, ow, tk, gl, some l⟩ o.op (fun y => D (St.put ⟨sl, ow, tk, gl, some l⟩ o.dst y)) := fun hk =>
    light_mono (fun y hy => hD _ _ _ _ hn hd hg hy) (light_congr h (fun e => by rw [hld] at e; simp at e) hk)
  have app : ∀ {b : Option (List AV)}, (ow.set id (some a)) ++ [b] = (ow ++ [b]).set id (some a) := fun {b} => by rw [List.set_append_left _ _ hlt]
  have app2 : ∀ {b : Option (List AV)}, (ow ++ [b])[id]? = some none := fun {b} => by rw [List.getElem?_append_left hlt]; exact hn
  obtain ⟨dst, op, type, pos, after, guard⟩ := o
  unfold AOp at hk ⊢
  cases op <;> simp only at hk ⊢
  case alloc ty =>
    unfold AAllocD at hk ⊢
    simp only at hk ⊢
    obtain ⟨z, hz, i, hi, hni, hk⟩ := hk
    have hne : id ≠ i := fun e => by
      subst e
      rw [List.getElem?_set, if_pos rfl, if_pos hlt] at hni
      simp at hni
    rw [List.getElem?_set_ne hne] at hni
    obtain ⟨t, ht, hm⟩ := lookD_mem hi
    have hm := (mem_dropR.1 hm).1
    refine ⟨z, hz, i, by rw [ht]; exact lookN_of_mem hg.fst hm, hni, hD _ _ _ _ (by rw [List.getElem?_set_ne (fun e => hne e.symm)]; exact hn) (mem_dropR.2 ⟨hd, hne⟩) (hg.drop i) ?_⟩
    rw [List.set_comm _ _ (fun e => hne e.symm), dropR_comm]
    exact hk
  case box ty x =>
    rw [← h x (by simp [Op.operands])]
    obtain ⟨h1, h2, hk⟩ := hk
    refine ⟨h1, h2, hD _ _ _ _ app2 hd hg ?_⟩
    rw [← app]
    simpa only [List.length_set] using hk
  case store => simp [storeOp] at hst
  case buildSlice ty n ps =>
    rw [← evParts_congr (s := ⟨tl, ow.set id (some a), tk, gl, some (dropR id l)⟩) (fun x hx => h x (by simpa [Op.operands] using hx))]
    obtain ⟨e, k, m, ys, h1, h2, h3, h4, h5, hk⟩ := hk
    exact ⟨e, k, m, ys, h1, h2, h3, h4, h5, hD _ _ _ _ hn hd hg hk⟩
  case convert b e x =>
    split at hk
    · rw [← h x (by simp [Op.operands])]
      obtain ⟨h1, h2, hk⟩ := hk
      refine ⟨h1, h2, ?_⟩
      split at hk
      · exact hD _ _ _ _ hn hd hg hk
      · exact hk.elim
    · exact light hk
  case call cl =>
    obtain ⟨callee, args, tys⟩ := cl
    have ha : ∀ x ∈ args.toList, St.ev ⟨tl, ow.set id (some a), tk, gl, some (dropR id l)⟩ x = St.ev ⟨sl, ow, tk, gl, some l⟩ x := fun x hx => h x (by simp [Op.operands, Call.operands]; exact .inr (by simpa using hx))
    simp only at hk ⊢
    split at hk
    · rename_i x y t1 t2 h1 h2
      rw [← ha x (by rw [h1]; simp), ← ha y (by rw [h1]; simp)]
      obtain ⟨g1, e, k, n, xs, g2, g3, hk⟩ := hk
      refine ⟨g1, e, k, n, xs, g2, g3, ?_⟩
      split at hk
      · obtain ⟨g4, g5, g6, g7, hk⟩ := hk
        exact ⟨g4, g5, g6, g7, hD _ _ _ _ hn hd hg hk⟩
      · obtain ⟨g6, g7, hk⟩ := hk
        exact ⟨g6, g7, hD _ _ _ _ hn hd hg hk⟩
      · exact hk.elim
    · rename_i f
      have hf := h f (by simp [Op.operands, Call.operands])
      have hm := List.map_congr_left ha
      rw [← hf, ← hm]
      unfold ACallOp at hk ⊢
      split at hk
      · obtain ⟨g1, ys, g2, R, g3, hk⟩ := hk
        exact ⟨g1, ys, g2, R, g3, fun r tks hR => hD _ _ _ _ hn hd hg (hk r tks hR)⟩
      · exact hk.elim
    · exact light hk
  all_goals exact light hk

theorem astep_some {i : Nat} {o : Oper} {C : St → Prop} {st : St} (h : ops[i]? = some o) : AStep E ops i C st = ∃ q, AWant ops o st = some q ∧ (q = true → AOp E o st C) ∧ (q = false → C (st.put o.dst (.v undef))) := by
  unfold AStep; rw [h]
theorem aop_alloc {o : Oper} {ty : TypeId} {st : St} {K : St → Prop} (h : o.op = .alloc ty) : AOp E o st K = AAllocD E.P ty o.dst st fun st' x => K (st'.put o.dst x) := by
  unfold AOp; rw [h]

theorem swap_alloc {i j : Nat} {p o : Oper} {C : St → Prop} {st : St} (hr : ∃ l, st.rsv = some l ∧ GoodR l) (hp : ops[i]? = some p) (ho : ops[j]? = some o) (hal : allocOp p.op = true) (hdp : p.dst.isSome = true) (hst : storeOp o.op = false) (hld : loadOp o.op = false)
    (hpo : (match p.dst with | none => true | some d => !(Oper.looksAt ops o).contains d && o.dst != some d) = true) (hop : (match o.dst with | none => true | some d => !(Oper.looksAt ops p).contains d) = true)
    (h : AStep E ops i (AStep E ops j C) st) : AStep E ops j (AStep E ops i C) st := by
  obtain ⟨l, hl, hg⟩ := hr
  cases hdst : p.dst with
  | none => rw [hdst] at hdp; simp at hdp
  | some d =>
  have hpo1 : ∀ t ∈ Oper.looksAt ops o, p.dst ≠ some t := fun t ht e => by
    rw [e] at hpo
    simp only [Bool.and_eq_true, Bool.not_eq_true'] at hpo
    have := hpo.1
    simp [ht] at this
  have hpo2 : o.dst ≠ some d := fun e => by
    rw [hdst] at hpo
    simp only [Bool.and_eq_true] at hpo
    have := hpo.2
    simp [e] at this
  have hop1 : ∀ t ∈ Oper.looksAt ops p, o.dst ≠ some t := fun t ht e => by
    rw [e] at hop
    simp [ht] at hop
  obtain ⟨ty, hty⟩ : ∃ ty, p.op = .alloc ty := by
    cases hh : p.op <;> rw [hh] at hal <;> simp only [allocOp] at hal <;> first | exact ⟨_, rfl⟩ | (simp at hal; done)
  obtain ⟨tl, ow, tk, gl, rv⟩ := st
  simp only at hl; subst hl
  rw [astep_some hp] at h
  obtain ⟨q, hq, h2, h3⟩ := h
  cases q with
  | true =>
    have h2 := h2 rfl
    rw [aop_alloc hty] at h2
    simp only [AAllocD] at h2
    obtain ⟨z, hz, id, hi, hn, h2⟩ := h2
    rw [hdst] at hi h2
    have hi' : lookN d l = some id := hi
    have hmem := lookN_mem hi'
    rw [astep_some ho] at h2 ⊢
    obtain ⟨q, hq2, h4, h5⟩ := h2
    have hlt : id < ow.length := (List.getElem?_eq_some_iff.1 hn).1
    rw [want_put_ne (d := some d) (fun t ht => by rw [← hdst]; exact hpo1 t ht)] at hq2
    have back : ∀ ow' tk' l' z', ow'[id]? = some none → (d, id) ∈ l' → GoodR l' → C (St.put ((St.put ⟨tl, ow'.set id (some [.agg z]), tk', gl, some (dropR id l')⟩ (some d) (.ptr id 0 0))) o.dst z') → AStep E ops i C (St.put ⟨tl, ow', tk', gl, some l'⟩ o.dst z') := fun ow' tk' l' z' e1 e2 e3 hC => by
      rw [astep_some hp]
      refine ⟨true, by rw [want_put_ne hop1]; exact hq, fun _ => ?_, fun hq => by simp at hq⟩
      rw [aop_alloc hty]
      unfold AAllocD
      simp only [put_own.2.2.2]
      refine ⟨z, hz, id, by rw [hdst]; exact lookN_of_mem e3.fst e2, by rw [put_own.1]; exact e1, ?_⟩
      have e4 : ({ St.put ⟨tl, ow', tk', gl, some l'⟩ o.dst z' with own := (St.put ⟨tl, ow', tk', gl, some l'⟩ o.dst z').own.set id (some [.agg z]), rsv := some (dropR id l') } : St) = St.put ⟨tl, ow'.set id (some [.agg z]), tk', gl, some (dropR id l')⟩ o.dst z' := by
        cases o.dst <;> rfl
      rw [e4, hdst, put_comm (fun t h1 h2 => by simp only [Option.some.injEq] at h2; subst h2; exact hpo2 h1)]
      exact hC
    refine ⟨q, hq2, fun e => ?_, fun e => ?_⟩
    · exact aop_frame hst hld (fun x hx => by
        have := ev_put_ne (st := ⟨tl, ow.set id (some [.agg z]), tk, gl, some (dropR id l)⟩) (d := some d) (y := .ptr id 0 0) (x := x) (fun u hu => by rw [← hdst]; exact hpo1 u (looks_op (hu ▸ hx)))
        refine this.trans ?_
        cases x <;> rfl) hn hmem hg hpo2 (h4 e) (fun ow' tk' l' z' e1 e2 e3 hC => back ow' tk' l' z' e1 e2 e3 hC)
    · exact back ow tk l _ hn hmem hg (h5 e)
  | false =>
    have h3 := h3 rfl
    rw [astep_some ho] at h3 ⊢
    obtain ⟨q, hq2, h4, h5⟩ := h3
    rw [want_put_ne hpo1] at hq2
    have hcm : ∀ {s : St} {y : AV}, (s.put p.dst (.v undef)).put o.dst y = (s.put o.dst y).put p.dst (.v undef) := fun {s y} => put_comm (fun t h1 h2 => by rw [hdst] at h1; simp only [Option.some.injEq] at h1; subst h1; exact hpo2 h2)
    refine ⟨q, hq2, fun e => ?_, fun e => ?_⟩
    · refine aop_congr (fun x hx => ev_put_ne (fun u hu => hpo1 u (looks_op (hu ▸ hx)))) put_own.1 put_own.2.1 put_own.2.2.1 put_own.2.2.2 (h4 e) (fun s' t' hc ha => ?_)
      obtain ⟨z, e1, e2⟩ := ha.at'
      rw [put_with] at e1
      rw [astep_some hp]
      refine ⟨false, ?_, fun hq => by simp at hq, fun _ => ?_⟩
      · rw [e2, want_put_ne hop1]; exact hq
      · rw [e2, ← hcm, ← e1]; exact hc
    · rw [astep_some hp]
      refine ⟨false, by rw [want_put_ne hop1]; exact hq, fun hq => by simp at hq, fun _ => ?_⟩
      rw [← hcm]; exact h5 e

theorem swap_ok {i j : Nat} {p o : Oper} {C : St → Prop} {st : St} (hr : ∃ l, st.rsv = some l ∧ GoodR l) (hp : ops[i]? = some p) (ho : ops[j]? = some o) (hs : swapOK E.P ops p o = true) (h : AStep E ops i (AStep E ops j C) st) : AStep E ops j (AStep E ops i C) st := by
  unfold swapOK at hs
  simp only [Bool.and_eq_true, Bool.or_eq_true, Bool.not_eq_true'] at hs
  obtain ⟨⟨hs, hpo⟩, hop⟩ := hs
  rcases hs with ⟨⟨h1, h2⟩, h3⟩ | ⟨⟨⟨h1, h2⟩, h3⟩, h4⟩
  · exact swap_light hp ho h1 h2 (by rcases h3 with h3 | h3 <;> simp [h3]) (by revert hpo; cases p.dst <;> simp) (by revert hop; cases o.dst <;> simp) h
  · exact swap_alloc hr hp ho h1 h2 h3 h4 (by revert hpo; cases p.dst <;> simp) (by revert hop; cases o.dst <;> simp) h

/-- What is listed has all that it hangs on listed. -/
def WfL (anc : List (List Nat)) (L : Array Bool) : Prop := ∀ m, L.getD m false = true → ∀ p ∈ anc.getD m [], L.getD p false = true

theorem getD_set {L : Array Bool} {i m : Nat} (h : (L.setIfInBounds i true).getD m false = true) : m = i ∨ L.getD m false = true := by
  by_cases e : m = i
  · exact .inl e
  · refine .inr ?_
    rwa [getD_set_ne false (fun he => e he.symm)] at h

theorem getD_set_le {L : Array Bool} {i m : Nat} (h : L.getD m false = true) : (L.setIfInBounds i true).getD m false = true := by
  by_cases e : i = m
  · subst e
    simp only [Array.getD_eq_getD_getElem?] at h ⊢
    rw [Array.getElem?_setIfInBounds]
    rw [if_pos rfl]
    split
    · rfl
    · rename_i hh; rw [Array.getElem?_eq_none (by omega)] at h; simp at h
  · rwa [getD_set_ne false e]

theorem anc_listed (hv : listedOK ops anc = true) {L : Array Bool} (hw : WfL anc L) {o : Nat} (ho : o ∈ Region.ready .any ops L) : ∀ p ∈ anc.getD o [], L.getD p false = true := by
  intro p hp
  obtain ⟨_, x, hx, hall⟩ := mem_ready.1 ho
  unfold listedOK at hv
  rw [List.all_eq_true] at hv
  have hlt : o < ops.size := (Array.getElem?_eq_some_iff.1 hx).1
  have h1 := hv o (List.mem_range.2 hlt)
  rw [List.all_eq_true] at h1
  have h2 := h1 p hp
  simp only [hx, List.any_eq_true, Bool.and_eq_true, Bool.or_eq_true, beq_iff_eq] at h2
  obtain ⟨e, he, hb, h3⟩ := h2
  have h4 := hall e (by simpa using he) hb
  rcases h3 with h3 | h3
  · rw [← h3]; exact h4
  · exact hw _ h4 p (by simpa using h3)

theorem WfL.add (hv : listedOK ops anc = true) {L : Array Bool} (hw : WfL anc L) {o : Nat} (ho : o ∈ Region.ready .any ops L) : WfL anc (L.setIfInBounds o true) := by
  intro m hm p hp
  rcases getD_set hm with rfl | hm
  · exact getD_set_le (anc_listed hv hw ho p hp)
  · exact getD_set_le (hw m hm p hp)

theorem free_swap (hv : listedOK ops anc = true) {L : Array Bool} (hw : WfL anc L) {p o : Nat} (hf : freeB E.P ops anc L p = true) (hp : p ∈ Region.ready .any ops L) (ho : o ∈ Region.ready .any ops L) (hne : o ≠ p) :
    ∃ x y, ops[p]? = some x ∧ ops[o]? = some y ∧ swapOK E.P ops x y = true := by
  obtain ⟨hpl, x, hx, _⟩ := mem_ready.1 hp
  obtain ⟨hol, y, hy, _⟩ := mem_ready.1 ho
  refine ⟨x, y, hx, hy, ?_⟩
  unfold freeB at hf
  simp only [hx, List.all_eq_true, List.mem_range, Bool.or_eq_true, beq_iff_eq] at hf
  have hlt : o < ops.size := (Array.getElem?_eq_some_iff.1 hy).1
  have := hf o hlt
  rcases this with ((h | h) | h) | h
  · exact absurd h hne
  · rw [hol] at h; simp at h
  · have := anc_listed hv hw ho p (by simpa using h)
    have h2 : L.getD p true = true := by
      simp only [Array.getD_eq_getD_getElem?] at this ⊢
      cases hh : L[p]? with
      | none => simp
      | some b => simpa [hh] using this
    rw [hpl] at h2; simp at h2
  · simpa [hy] using h

theorem freeB_mono {L : Array Bool} {p o : Nat} (hf : freeB E.P ops anc L p = true) : freeB E.P ops anc (L.setIfInBounds o true) p = true := by
  unfold freeB at *
  split at hf
  · simp at hf
  · rename_i x hx
    rw [List.all_eq_true] at *
    intro q hq
    have := hf q hq
    simp only [Bool.or_eq_true] at this ⊢
    rcases this with ((h | h) | h) | h
    · exact .inl (.inl (.inl h))
    · refine .inl (.inl (.inr ?_))
      by_cases e : o = q
      · subst e
        simp only [Array.getD_eq_getD_getElem?] at h ⊢
        rw [Array.getElem?_setIfInBounds, if_pos rfl]
        split <;> simp
      · rwa [getD_set_ne true e]
    · exact .inl (.inr h)
    · exact .inr h

theorem ready_add {L : Array Bool} {p o : Nat} (hp : p ∈ Region.ready .any ops L) (hne : p ≠ o) : p ∈ Region.ready .any ops (L.setIfInBounds o true) := by
  obtain ⟨h1, x, hx, h2⟩ := mem_ready.1 hp
  refine mem_ready.2 ⟨by rwa [getD_set_ne true (fun e => hne e.symm)], x, hx, fun e he hb => getD_set_le (h2 e he hb)⟩

theorem set_comm (L : Array Bool) (i j : Nat) : (L.setIfInBounds i true).setIfInBounds j true = (L.setIfInBounds j true).setIfInBounds i true := by
  apply Array.ext_getElem?
  intro k
  simp only [Array.getElem?_setIfInBounds, Array.size_setIfInBounds]
  split <;> split <;> (try split) <;> simp_all

def Good (st : St) : Prop := ∃ l, st.rsv = some l ∧ GoodR l
theorem good_put {st : St} {d : Option Tmp} {x : AV} (h : Good st) : Good (st.put d x) := by
  obtain ⟨l, h1, h2⟩ := h; exact ⟨l, by rw [put_own.2.2.2]; exact h1, h2⟩
theorem astep_good {i : Nat} {C : St → Prop} {st : St} (hg : Good st) (h : AStep E ops i C st) : AStep E ops i (fun s => C s ∧ Good s) st := by
  cases ho : ops[i]? with
  | none =>
    have e : ∀ C' : St → Prop, AStep E ops i C' st = C' st := fun C' => by unfold AStep; rw [ho]
    rw [e] at h ⊢
    exact ⟨h, hg⟩
  | some o =>
    rw [astep_some ho] at h ⊢
    obtain ⟨q, h1, h2, h3⟩ := h
    refine ⟨q, h1, fun hq => ?_, fun hq => ⟨h3 hq, good_put hg⟩⟩
    have h2 := h2 hq
    cases hal : allocOp o.op with
    | true =>
      obtain ⟨ty, hty⟩ : ∃ ty, o.op = .alloc ty := by
        cases hh : o.op <;> rw [hh] at hal <;> simp only [allocOp] at hal <;> first | exact ⟨_, rfl⟩ | (simp at hal; done)
      rw [aop_alloc hty] at h2 ⊢
      obtain ⟨l, hl, hgl⟩ := hg
      have e : ∀ K' : St → AV → Prop, AAllocD E.P ty o.dst st K' = ∃ z, tzero E.P ty = some z ∧ ∃ i, lookD o.dst l = some i ∧ st.own[i]? = some none ∧ K' { st with own := st.own.set i (some [.agg z]), rsv := some (dropR i l) } (.ptr i 0 0) := fun K' => by unfold AAllocD; rw [hl]
      rw [e] at h2 ⊢
      obtain ⟨z, hz, id, hi, hn, hk⟩ := h2
      exact ⟨z, hz, id, hi, hn, hk, good_put ⟨_, rfl, hgl.drop id⟩⟩
    | false =>
      refine aop_congr (fun _ _ => rfl) rfl rfl rfl rfl h2 (fun s' t' hc ha => ?_)
      obtain ⟨z, e1, e2⟩ := ha.at'
      have e3 : t' = s' := by rw [e2, ← e1]
      rw [e3]
      refine ⟨hc, ?_⟩
      rcases ha.keep with hk | ⟨ty, hty⟩
      · obtain ⟨l, hl, hgl⟩ := hg
        exact ⟨l, hk.trans hl, hgl⟩
      · rw [hty] at hal; simp [allocOp] at hal
theorem astep_false {i : Nat} {p o : Oper} {st : St} (hg : Good st) (hp : ops[i]? = some p) (hs : swapOK E.P ops p o = true) (h : AStep E ops i (fun _ => False) st) : False := by
  rw [astep_some hp] at h
  obtain ⟨q, h1, h2, h3⟩ := h
  cases q with
  | false => exact h3 rfl
  | true =>
    have h2 := h2 rfl
    unfold swapOK at hs
    simp only [Bool.and_eq_true, Bool.or_eq_true] at hs
    rcases hs.1.1 with ⟨⟨hl, hd⟩, _⟩ | ⟨⟨⟨hal, _⟩, _⟩, _⟩
    · obtain ⟨y, hy, _⟩ := det_light hd _ ((light_aop hl).1 h2)
      exact hy
    · obtain ⟨ty, hty⟩ : ∃ ty, p.op = .alloc ty := by
        cases hh : p.op <;> rw [hh] at hal <;> simp only [allocOp] at hal <;> first | exact ⟨_, rfl⟩ | (simp at hal; done)
      rw [aop_alloc hty] at h2
      obtain ⟨l, hl, _⟩ := hg
      unfold AAllocD at h2
      rw [hl] at h2
      simp only at h2
      obtain ⟨_, _, _, _, _, h⟩ := h2
      exact h

theorem take_ok (hv : listedOK ops anc = true) {p : Nat} : ∀ (n : Nat) (L : Array Bool) (st : St), Good st → WfL anc L → freeB E.P ops anc L p = true → p ∈ Region.ready .any ops L →
    AStep E ops p (AAny E ops K n (L.setIfInBounds p true)) st → AAny E ops K (n + 1) L st
  | n, L, st, hg, hw, hf, hp, h => by
    refine ⟨fun e => (by rw [e] at hp; simp at hp), fun o ho => ?_⟩
    by_cases hne : o = p
    · subst hne; exact h
    · obtain ⟨x, y, hx, hy, hs⟩ := free_swap (E := E) hv hw hf hp ho hne
      have ho' := ready_add ho hne (o := p)
      cases n with
      | zero =>
        exfalso
        have : ∀ st', AAny E ops K 0 (L.setIfInBounds p true) st' → False := fun st' h' => by
          have := h'.1
          rw [this] at ho'; simp at ho'
        exact astep_false hg hx hs (h.mono (D := fun _ => False) this)
      | succ m =>
        have h2 : AStep E ops p (AStep E ops o (AAny E ops K m ((L.setIfInBounds p true).setIfInBounds o true))) st := h.mono fun s hs' => hs'.2 o ho'
        have h3 := astep_good hg (swap_ok hg hx hy hs h2)
        refine h3.mono fun s ⟨hs', hg'⟩ => ?_
        rw [set_comm] at hs'
        exact take_ok hv m _ s hg' (hw.add hv ho) (freeB_mono hf) (ready_add hp (fun e => hne e.symm)) hs'

theorem plan_ok (hv : listedOK ops anc = true) : ∀ (x : Plan) (b : Bool) (L : Array Bool) (n : Nat) (st : St), Good st → planOK E.P ops anc b x L n = true → WfL anc L → APlan E ops K x st →
    (b = true → AAny E ops K n L st) ∧ (b = false → ∀ i ∈ x.alts, ∃ m, n = m + 1 ∧ AStep E ops i (AAny E ops K m (L.setIfInBounds i true)) st)
  | .done, b, L, n, st, hg, h, hw, ha => by
    simp only [planOK, Bool.and_eq_true, List.isEmpty_iff] at h
    refine ⟨fun _ => ?_, fun hb => by rw [hb] at h; simp at h⟩
    cases n with
    | zero => exact ⟨h.2, ha⟩
    | succ n => exact ⟨fun _ => ha, fun i hi => by rw [h.2] at hi; simp at hi⟩
  | .take i p, b, L, n, st, hg, h, hw, ha => by
    simp only [planOK, Bool.and_eq_true] at h
    refine ⟨fun _ => ?_, fun hb => by rw [hb] at h; simp at h⟩
    cases n with
    | zero => simp at h
    | succ n =>
      simp only [Bool.and_eq_true] at h
      obtain ⟨_, ⟨h1, h2⟩, h3⟩ := h
      have h1 : i ∈ Region.ready .any ops L := by simpa using h1
      refine take_ok hv n L st hg hw h2 h1 ?_
      exact AStep.mono (astep_good hg ha) fun s ⟨hs, hg'⟩ => (plan_ok hv p true _ n s hg' h3 (hw.add hv h1) hs).1 rfl
  | .fork p, b, L, n, st, hg, h, hw, ha => by
    simp only [planOK, Bool.and_eq_true, beq_iff_eq, Bool.not_eq_true', List.isEmpty_eq_false_iff] at h
    obtain ⟨⟨⟨hb, h1⟩, h2⟩, h3⟩ := h
    refine ⟨fun _ => ?_, fun hb' => by rw [hb'] at hb; simp at hb⟩
    have := (plan_ok hv p false L n st hg h3 hw ha).2 rfl
    obtain ⟨i0, hi0⟩ := List.exists_mem_of_ne_nil _ h2
    obtain ⟨n', rfl, _⟩ := this i0 hi0
    refine ⟨fun e => by rw [h1, e] at hi0; simp at hi0, fun i hi => ?_⟩
    obtain ⟨m, e, hm⟩ := this i (by rw [h1]; exact hi)
    have : m = n' := by omega
    subst this
    exact hm
  | .alt i p rest, b, L, n, st, hg, h, hw, ha => by
    simp only [planOK, Bool.and_eq_true, Bool.not_eq_true'] at h
    refine ⟨fun hb => by rw [hb] at h; simp at h, fun _ => ?_⟩
    cases n with
    | zero => simp at h
    | succ n =>
      simp only [Bool.and_eq_true] at h
      obtain ⟨_, ⟨h1, h2⟩, h3⟩ := h
      have h1 : i ∈ Region.ready .any ops L := by simpa using h1
      intro j hj
      simp only [Plan.alts, List.mem_cons] at hj
      rcases hj with rfl | hj
      · exact ⟨n, rfl, AStep.mono (astep_good hg ha.1) fun s ⟨hs, hg'⟩ => (plan_ok hv p true _ n s hg' h2 (hw.add hv h1) hs).1 rfl⟩
      · exact (plan_ok hv rest false L (n + 1) st hg h3 hw ha.2).2 rfl j hj
  | .ends, b, L, n, st, hg, h, hw, ha => by
    simp only [planOK, Bool.not_eq_true'] at h
    exact ⟨fun hb => by rw [hb] at h; simp at h, fun _ i hi => by simp [Plan.alts] at hi⟩

/-- Places for new variables, one behind the other. -/
def mkRsv : List Tmp → Nat → List (Tmp × Nat)
  | [], _ => []
  | d :: ds, n => (d, n) :: mkRsv ds (n + 1)
theorem mem_mkRsv {t : Tmp} {i : Nat} : ∀ {ds : List Tmp} {n : Nat}, (t, i) ∈ mkRsv ds n → t ∈ ds ∧ n ≤ i ∧ i < n + ds.length
  | [], _, h => by simp [mkRsv] at h
  | d :: ds, n, h => by
    simp only [mkRsv, List.mem_cons, Prod.mk.injEq] at h
    rcases h with ⟨rfl, rfl⟩ | h
    · exact ⟨List.mem_cons_self .., Nat.le_refl _, by simp⟩
    · obtain ⟨h1, h2, h3⟩ := mem_mkRsv h
      exact ⟨List.mem_cons_of_mem _ h1, by omega, by simp; omega⟩
theorem good_mkRsv : ∀ {ds : List Tmp} {n : Nat}, ds.Nodup → GoodR (mkRsv ds n)
  | [], _, _ => ⟨by simp [mkRsv], by simp [mkRsv]⟩
  | d :: ds, n, h => by
    have ih := good_mkRsv (ds := ds) (n := n + 1) (List.nodup_cons.1 h).2
    have hd := (List.nodup_cons.1 h).1
    refine ⟨fun t i j h1 h2 => ?_, fun t u i h1 h2 => ?_⟩
    · simp only [mkRsv, List.mem_cons, Prod.mk.injEq] at h1 h2
      rcases h1 with ⟨rfl, rfl⟩ | h1 <;> rcases h2 with ⟨e, rfl⟩ | h2
      · rfl
      · exact absurd (mem_mkRsv h2).1 hd
      · subst e; exact absurd (mem_mkRsv h1).1 hd
      · exact ih.fst t i j h1 h2
    · simp only [mkRsv, List.mem_cons, Prod.mk.injEq] at h1 h2
      rcases h1 with ⟨rfl, rfl⟩ | h1 <;> rcases h2 with ⟨rfl, e⟩ | h2
      · rfl
      · have := (mem_mkRsv h2).2.1; omega
      · have := (mem_mkRsv h1).2.1; omega
      · exact ih.snd t u i h1 h2
/-- The state at the beginning of a region that draws its order, and what is asked behind it. -/
def St.keep (st : St) (ds : List Tmp) : St := { st with own := st.own ++ List.replicate ds.length none, rsv := some (mkRsv ds st.own.length) }
def Done (K : St → Prop) (st : St) : Prop := K { st with rsv := none }

/-- A region that draws its order, by a plan. -/
theorem AWP.regionAny {id : Nat} {l : List Oper} {Q : Exit → St → Prop} {st : St} (x : Plan) (anc : List (List Nat)) (ds : List Tmp) (hm : E.P.follows .mixedOrders = true)
    (hx : (listedOK l.toArray anc && planOK E.P l.toArray anc true x (Array.replicate l.toArray.size false) l.toArray.size) = true) (hd : ds.Nodup) (h : APlan E l.toArray (Done (Q .normal)) x (st.keep ds)) : AWP E (.region id l.toArray true) Q st := fun w0 im0 cx a w h0 hG r => by
  simp only [Bool.and_eq_true] at hx
  have r' : Rel w0 im0 cx st a w.drew := ⟨r.defers, r.size, r.tmps, r.below.drew, r.imle, r.imold, r.imok, r.ownlen, fun i g k es h1 h2 => let h3 := r.own i g k es h1 h2; ⟨h3.new, h3.im, h3.blk⟩, r.tklen, r.tail, fun t T b h1 h2 => let h3 := r.tok t T b h1 h2; ⟨h3.new, h3.room, h3.im, h3.blk⟩, r.apart, r.glob, r.hole⟩
  have r2 := r'.reserve ds.length (l := mkRsv ds st.own.length) (fun d i hmem => (mem_mkRsv hmem).2)
  refine wp_region_any hm (aany_sound h0 hG (K := Done (Q .normal)) (fun a' w' hh => ?_) _ _ (st.keep ds) _ a _ r2 ?_)
  · obtain ⟨c', st', r3, hk⟩ := hh
    exact ⟨c', { st' with rsv := none }, ⟨r3.defers, r3.size, r3.tmps, r3.below, r3.imle, r3.imold, r3.imok, r3.ownlen, r3.own, r3.tklen, r3.tail, r3.tok, r3.apart, r3.glob, fun l d i e => by cases e⟩, hk⟩
  · refine (plan_ok hx.1 x true _ _ _ ⟨_, rfl, good_mkRsv hd⟩ hx.2 ?_ h).1 rfl
    intro m hm
    exfalso
    simp only [Array.getD_eq_getD_getElem?, Array.getElem?_replicate] at hm
    split at hm <;> simp at hm

end
end Go.Abs
