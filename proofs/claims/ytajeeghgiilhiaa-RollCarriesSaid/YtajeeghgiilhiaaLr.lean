/- A region that draws its order: what each operation yields is told once, for all orders; calls by reference may stand in it. -/
import Derived.Test.YtajeeghgiilhiaaLv
set_option linter.unusedVariables false
set_option linter.unusedSimpArgs false
namespace Go.Abs
open Go Go.RowKit

theorem oper_wp_mono2 {P : Program} {o : Oper} {a : Act} {w : World} {K K' : Act → World → Prop} {Q Q' : Exit → Act → World → Prop} (h : ∀ a w, K a w → K' a w) (hp : ∀ c a w, Q (.panic c) a w → Q' (.panic c) a w) (hl : LetsOut Q → LetsOut Q')
    (hh : o.wp P a w K Q) : o.wp P a w K' Q' := by
  unfold Oper.wp at *
  generalize (execOp a.eval o).run P w = r at *
  cases r with
  | ok n w' =>
    cases n <;> simp only [Oper.upon] at hh ⊢ <;>
      first
        | exact h _ _ hh
        | exact Calls.mono hh (fun e w'' he => by cases e <;> first | exact h _ _ he | exact hp _ _ _ he | exact hl he)
        | exact Rows.mono hh (fun _ _ he => h _ _ he)
  | halt x w' => cases x <;> simp only [Oper.upon] at hh ⊢ <;> first | exact hp _ _ _ hh | exact hh

/-- What one operation does to a state, whatever comes behind it. -/
def FOp (E : Env) (ops : Array Oper) (o : Oper) (s s' : St) : Prop := ∀ Q : Exit → St → Prop, Q .normal s' → AWPL E ops [o] Q s

theorem FOp.list {E : Env} {ops : Array Oper} {o : Oper} {s s' : St} (h : AList E ops [o] s fun z => z = s') : FOp E ops o s s' := fun Q hQ => by
  obtain ⟨q, hq, h1, h2⟩ := h
  refine AWPL.of ⟨q, hq, fun e => aop_mono (h1 e) fun z hz => ?_, fun e => ?_⟩
  · have hz : z = s' := hz
    subst hz; exact hQ
  · have hz : s.put o.dst (.v undef) = s' := h2 e
    show Q .normal _
    rw [hz]; exact hQ
theorem FOp.call {E : Env} {ops : Array Oper} {o : Oper} {s s' : St} (h : ∀ Q : Exit → St → Prop, AWPL E ops [] Q s' → AWPL E ops [o] Q s) : FOp E ops o s s' := fun Q hQ => h Q (AWPL.of hQ)

def lookI : List (Option Tmp) → Nat → Tmp → Option Nat
  | [], _, _ => none
  | d :: r, i, t => if d = some t then some i else lookI r (i + 1) t
def flowX (ds : List (Option Tmp)) (vals : List AV) (L : Nat → Bool) (t : Nat) (x : AV) : AV := match lookI ds 0 t with | some i => if L i then vals.getD i .any else x | none => x
/-- What a slot holds for an operation that looks at it. -/
def expF (ds : List (Option Tmp)) (vals : List AV) (anc : List (List Nat)) (i : Nat) (st : St) (t : Tmp) : AV := match lookI ds 0 t with | some j => if (anc.getD i []).contains j then vals.getD j .any else st.tmps.getD t .any | none => st.tmps.getD t .any
def updL (L : Nat → Bool) (i : Nat) : Nat → Bool := fun j => if j = i then true else L j
def flowS (ds : List (Option Tmp)) (vals : List AV) (cs : List Nat) (ow : Nat → List (Option (List AV))) (st : St) (L : Nat → Bool) : St := { st with tmps := st.tmps.mapIdx (flowX ds vals L), own := ow (cs.countP L) }
def dstsOf (ops : Array Oper) : List (Option Tmp) := ops.toList.map (·.dst)
/-- What is to be looked at in the code alone. -/
def flowOK (ops : Array Oper) (anc : List (List Nat)) (cs : List Nat) : Bool :=
  listedOK ops anc && (List.range ops.size).all (fun i => match ops[i]? with
    | none => false
    | some o => o.dst.isSome && (match o.dst with | some d => lookI (dstsOf ops) 0 d == some i | none => true) && o.after.toList.all (fun e => !Region.binds .any e || decide (e.on < i)) &&
      (Oper.looksAt ops o).all (fun t => match lookI (dstsOf ops) 0 t with | some j => (anc.getD i []).contains j || (anc.getD j []).contains i | none => true)) &&
  (List.range cs.length).all (fun k => (List.range k).all fun j => (anc.getD (cs.getD k 0) []).contains (cs.getD j 0)) && decide cs.Nodup && cs.all (fun i => decide (i < ops.size))

section
variable {E : Env} {ops : Array Oper} {anc : List (List Nat)} {cs : List Nat} {ow : Nat → List (Option (List AV))} {vals : List AV} {st : St}

theorem flow_read {L : Nat → Bool} {t : Tmp} {i : Nat} (h : ∀ j, lookI (dstsOf ops) 0 t = some j → L j = (anc.getD i []).contains j) : (flowS (dstsOf ops) vals cs ow st L).tmps.getD t .any = if t < st.tmps.length then expF (dstsOf ops) vals anc i st t else .any := by
  simp only [flowS, List.getD_eq_getElem?_getD, List.getElem?_mapIdx]
  by_cases ht : t < st.tmps.length
  · rw [if_pos ht, List.getElem?_eq_getElem ht]
    simp only [Option.map_some, Option.getD_some, flowX, expF]
    cases hl : lookI (dstsOf ops) 0 t with
    | none => simp [List.getD_eq_getElem?_getD, List.getElem?_eq_getElem ht]
    | some j =>
      simp only [h j hl]
      split <;> simp_all [List.getD_eq_getElem?_getD, List.getElem?_eq_getElem ht]
  · rw [if_neg ht, List.getElem?_eq_none (Nat.le_of_not_lt ht)]
    rfl
theorem count_upd {L : Nat → Bool} {i : Nat} (h : i ∉ cs) : cs.countP (updL L i) = cs.countP L := by
  apply List.countP_congr
  intro j hj
  have : j ≠ i := fun e => h (e ▸ hj)
  simp [updL, this]
theorem flow_put {L : Nat → Bool} {i : Nat} {d : Tmp} (h : lookI (dstsOf ops) 0 d = some i) : (st.tmps.mapIdx (flowX (dstsOf ops) vals L)).set d (vals.getD i .any) = st.tmps.mapIdx (flowX (dstsOf ops) vals (updL L i)) ∨ ¬ (∀ t, lookI (dstsOf ops) 0 t = some i → t = d) := by
  by_cases hu : ∀ t, lookI (dstsOf ops) 0 t = some i → t = d
  · left
    apply List.ext_getElem?
    intro t
    rw [List.getElem?_set]
    simp only [List.getElem?_mapIdx, List.length_mapIdx]
    by_cases htd : d = t
    · subst htd
      rw [if_pos rfl]
      by_cases hd : d < st.tmps.length
      · simp [hd, flowX, h, updL]
      · simp [hd]
    · rw [if_neg htd]
      cases hx : st.tmps[t]? with
      | none => rfl
      | some x =>
        simp only [Option.map_some, Option.some.injEq, flowX]
        cases hl : lookI (dstsOf ops) 0 t with
        | none => rfl
        | some j =>
          have : j ≠ i := fun e => htd (hu t (e ▸ hl)).symm
          simp [updL, this]
  · exact .inr hu
theorem lookI_get : ∀ {ds : List (Option Tmp)} {k t i : Nat}, lookI ds k t = some i → ∃ j, i = k + j ∧ ds[j]? = some (some t)
  | [], _, _, _, h => by simp [lookI] at h
  | d :: r, k, t, i, h => by
    unfold lookI at h
    split at h
    · rename_i e
      simp only [Option.some.injEq] at h
      exact ⟨0, by omega, by simp [e]⟩
    · obtain ⟨j, e1, e2⟩ := lookI_get h
      exact ⟨j + 1, by omega, by simpa using e2⟩

theorem lookI_lt {ds : List (Option Tmp)} {t i : Nat} (h : lookI ds 0 t = some i) : i < ds.length := by
  obtain ⟨j, e1, e2⟩ := lookI_get h
  have := (List.getElem?_eq_some_iff.1 e2).1
  omega
theorem flow_all {L : Nat → Bool} (hl : (dstsOf ops).length = vals.length) {p : AV → Bool} (h1 : st.tmps.all p = true) (h2 : vals.all p = true) : (flowS (dstsOf ops) vals cs ow st L).tmps.all p = true := by
  rw [List.all_eq_true] at *
  intro x hx
  obtain ⟨t, ht⟩ := List.mem_iff_getElem?.1 hx
  simp only [flowS, List.getElem?_mapIdx] at ht
  cases hy : st.tmps[t]? with
  | none => rw [hy] at ht; simp at ht
  | some y =>
    rw [hy] at ht
    simp only [Option.map_some, Option.some.injEq] at ht
    have hy2 := h1 y (List.mem_of_getElem? hy)
    rw [← ht]
    unfold flowX
    cases hk : lookI (dstsOf ops) 0 t with
    | none => exact hy2
    | some i =>
      simp only []
      split
      · have hi : i < vals.length := by rw [← hl]; exact lookI_lt hk
        have : vals.getD i .any ∈ vals := List.mem_iff_getElem?.2 ⟨i, by simp [List.getD_eq_getElem?_getD, List.getElem?_eq_getElem hi]⟩
        exact h2 _ this
      · exact hy2

theorem flow_sound {w0 : World} {im0 : Base} (h0 : E.ok w0) (hG : GOB E im0) {Q : Exit → St → Prop} (hv : listedOK ops anc = true)
    (hlt : ∀ (i : Nat) (o : Oper), ops[i]? = some o → ∀ e ∈ o.after, Region.binds .any e = true → e.on < i)
    (hstep : ∀ (i : Nat) (o : Oper), ops[i]? = some o → ∀ L : Nat → Bool, L i = false → (∀ p ∈ anc.getD i [], L p = true) → (∀ m, L m = true → ∀ p ∈ anc.getD m [], L p = true) → FOp E ops o (flowS (dstsOf ops) vals cs ow st L) (flowS (dstsOf ops) vals cs ow st (updL L i)))
    (hQ : ∀ L : Nat → Bool, (∀ i, i < ops.size → L i = true) → Q .normal (flowS (dstsOf ops) vals cs ow st L)) :
    ∀ (n : Nat) (L : Array Bool) (c : Ctx) (a : Act) (w : World), L.size = ops.size → L.toList.count false = n → WfL anc L → Rel w0 im0 c (flowS (dstsOf ops) vals cs ow st fun j => L.getD j false) a w →
      wpAny E.P .any ops (fun e a w => Hands w0 im0 (Q e) a w) n L a w := by
  have hall : ∀ L : Array Bool, L.size = ops.size → Region.ready .any ops L = [] → ∀ i, i < ops.size → L.getD i false = true := by
    intro L hs hr i
    induction i using Nat.strongRecOn with
    | ind i ih =>
      intro hi
      cases hb : L.getD i false with
      | true => rfl
      | false =>
        exfalso
        have : i ∈ Region.ready .any ops L := by
          rw [mem_ready]
          refine ⟨?_, ops[i], by simp [hi], fun e he hbd => ?_⟩
          · have hi' : i < L.size := by omega
            simpa [Array.getD, hi'] using hb
          · have := hlt i ops[i] (by simp [hi]) e he hbd
            exact ih e.on this (by omega)
        rw [hr] at this; simp at this
  have hset : ∀ (L : Array Bool) (i : Nat), i < L.size → (fun j => (L.setIfInBounds i true).getD j false) = updL (fun j => L.getD j false) i := by
    intro L i hi
    funext j
    simp only [updL, Array.getD_eq_getD_getElem?, Array.getElem?_setIfInBounds]
    by_cases hj : j = i
    · subst hj; simp [hi]
    · rw [if_neg (fun e => hj e.symm), if_neg hj]
  intro n
  induction n with
  | zero =>
    intro L c a w hs hc hw r
    have hno : ∀ i, i < ops.size → L.getD i false = true := by
      intro i hi
      have hi' : i < L.size := by omega
      have := List.count_eq_zero.1 hc
      cases hb : L[i] with
      | true => simp [Array.getD, hi', hb]
      | false => exact absurd (List.mem_iff_getElem.2 ⟨i, by simpa using hi', by simpa using hb⟩) this
    refine ⟨?_, ⟨c, _, r, hQ _ hno⟩⟩
    cases hr : Region.ready .any ops L with
    | nil => rfl
    | cons i rest =>
      exfalso
      have hi : i ∈ Region.ready .any ops L := by rw [hr]; exact List.mem_cons_self ..
      obtain ⟨h1, o, ho, _⟩ := mem_ready.1 hi
      have hio : i < ops.size := (Array.getElem?_eq_some_iff.1 ho).1
      have := hno i hio
      have hi' : i < L.size := by omega
      simp only [Array.getD, hi', dite_true] at h1 this
      rw [h1] at this; simp at this
  | succ n ih =>
    intro L c a w hs hc hw r
    refine ⟨fun hr => ⟨c, _, r, hQ _ (hall L hs hr)⟩, fun i hi => ?_⟩
    obtain ⟨h1, o, ho, hedge⟩ := mem_ready.1 hi
    have hio : i < ops.size := (Array.getElem?_eq_some_iff.1 ho).1
    have hi' : i < L.size := by omega
    have hLi : L.getD i false = false := by simpa [Array.getD, hi'] using h1
    have hf := hstep i o ho (fun j => L.getD j false) hLi (anc_listed hv hw hi) hw
    have hL2 := hset L i hi'
    rw [← hL2] at hf
    have hcount : (L.setIfInBounds i true).toList.count false = n := by
      have hget : L.toList[i]'(by simpa using hi') = false := by
        have : L[i] = false := by simpa [Array.getD, hi'] using h1
        simpa using this
      rw [Array.toList_setIfInBounds, List.count_set (h := by simpa using hi'), hc, hget]
      simp
    unfold wpOp
    rw [ho]
    simp only []
    have hh := hf (fun e z => match e with | .normal => z = flowS (dstsOf ops) vals cs ow st (fun j => (L.setIfInBounds i true).getD j false) | e => Q e z) rfl w0 im0 c a w h0 hG r
    unfold wpList at hh
    have next : ∀ a' w', Hands w0 im0 (fun z => z = flowS (dstsOf ops) vals cs ow st (fun j => (L.setIfInBounds i true).getD j false)) a' w' → wpAny E.P .any ops (fun e a w => Hands w0 im0 (Q e) a w) n (L.setIfInBounds i true) a' w' := by
      rintro a' w' ⟨c', s, r', rfl⟩
      exact ih _ c' a' w' (by simpa using hs) hcount (hw.add hv hi) r'
    split at hh
    · rename_i hwant
      rw [if_pos hwant]
      rcases hh with hh | ⟨hh1, a', w', hh2⟩
      · refine .inl (oper_wp_mono2 (fun a' w' hz => next a' w' ?_) (fun _ _ _ h => h) (fun ⟨a', w', h⟩ => ⟨a', w', h⟩) hh)
        exact hz
      · exact .inr ⟨hh1, a', w', hh2⟩
    · rename_i hwant
      rw [if_neg hwant]
      exact next _ _ hh

def setAll : List (Option Tmp) → List AV → List AV → List AV
  | some d :: ds, v :: vs, ts => setAll ds vs (ts.set d v)
  | none :: ds, _ :: vs, ts => setAll ds vs ts
  | _, _, ts => ts
theorem lookI_shift : ∀ (ds : List (Option Tmp)) (k t : Nat), lookI ds (k + 1) t = (lookI ds k t).map (· + 1)
  | [], _, _ => rfl
  | d :: r, k, t => by
    unfold lookI
    split
    · rfl
    · exact lookI_shift r (k + 1) t
theorem lookI_mem : ∀ {ds : List (Option Tmp)} {k t : Nat}, some t ∉ ds → lookI ds k t = none
  | [], _, _, _ => rfl
  | d :: r, k, t, h => by
    simp only [List.mem_cons, not_or] at h
    unfold lookI
    rw [if_neg (fun e => h.1 e.symm)]
    exact lookI_mem h.2
theorem setAll_get : ∀ (ds : List (Option Tmp)) (vs ts : List AV) (t : Nat), ds.length = vs.length → (∀ d, some d ∈ ds → ds.count (some d) ≤ 1) → (setAll ds vs ts)[t]? = (ts[t]?).map fun x => flowX ds vs (fun _ => true) t x
  | [], vs, ts, t, hl, hn => by
    cases h : ts[t]? <;> simp [setAll, flowX, lookI, h]
  | d :: ds, [], ts, t, hl, hn => by simp at hl
  | none :: ds, v :: vs, ts, t, hl, hn => by
    have ih := setAll_get ds vs ts t (by simpa using hl) (fun d hd => by have := hn d (List.mem_cons_of_mem _ hd); simpa [List.count_cons] using this)
    show (setAll ds vs ts)[t]? = _
    rw [ih]
    congr 1
    funext x
    have e : lookI (none :: ds) 0 t = (lookI ds 0 t).map (· + 1) := by
      show (if none = some t then _ else lookI ds (0 + 1) t) = _
      rw [if_neg (by simp), lookI_shift]
    unfold flowX
    rw [e]
    cases lookI ds 0 t <;> simp
  | some d :: ds, v :: vs, ts, t, hl, hn => by
    have hnd : some d ∉ ds := by
      have := hn d (List.mem_cons_self ..)
      rw [List.count_cons_self] at this
      exact List.count_eq_zero.1 (by omega)
    have ih := setAll_get ds vs (ts.set d v) t (by simpa using hl) (fun d' hd => by
      have := hn d' (List.mem_cons_of_mem _ hd)
      rw [List.count_cons] at this; omega)
    show (setAll ds vs (ts.set d v))[t]? = _
    rw [ih, List.getElem?_set]
    by_cases htd : d = t
    · subst htd
      have e : lookI (some d :: ds) 0 d = some 0 := by
        show (if some d = some d then _ else _) = _
        rw [if_pos rfl]
      by_cases hd : d < ts.length
      · simp [hd, flowX, e, lookI_mem hnd]
      · simp [hd]
    · have e : lookI (some d :: ds) 0 t = (lookI ds 0 t).map (· + 1) := by
        show (if some d = some t then _ else lookI ds (0 + 1) t) = _
        rw [if_neg (by simpa using htd), lookI_shift]
      rw [if_neg htd]
      congr 1
      funext x
      unfold flowX
      rw [e]
      cases lookI ds 0 t <;> simp

/-- A region that draws its order: each operation yields what 'vals' tells; the calls 'cs' come one behind the other, and turn the own blocks. -/
theorem AWP.regionFlow {id : Nat} {Q : Exit → St → Prop} (anc : List (List Nat)) (vals : List AV) (cs : List Nat) (ow : Nat → List (Option (List AV))) (hm : E.P.follows .mixedOrders = true) (hk : flowOK ops anc cs = true) (hvl : (dstsOf ops).length = vals.length)
    (hown : st.own = ow 0) (hrsv : st.rsv = none)
    (hp : ∀ (i : Nat) (o : Oper), ops[i]? = some o → i ∉ cs → ∀ s : St, s.gl = st.gl → (∃ k, s.own = ow k) → s.tk = st.tk → s.rsv = none → (∀ t ∈ Oper.looksAt ops o, s.tmps.getD t .any = if t < st.tmps.length then expF (dstsOf ops) vals anc i st t else .any) → FOp E ops o s (s.put o.dst (vals.getD i .any)))
    (hc : ∀ (k i : Nat) (o : Oper), cs[k]? = some i → ops[i]? = some o → ∀ s : St, s.gl = st.gl → s.own = ow k → s.tk = st.tk → s.rsv = none → s.up = st.up → (∀ p : AV → Bool, st.tmps.all p = true → vals.all p = true → s.tmps.all p = true) → (∀ t ∈ Oper.looksAt ops o, s.tmps.getD t .any = if t < st.tmps.length then expF (dstsOf ops) vals anc i st t else .any) → FOp E ops o s (St.put { s with own := ow (k + 1) } o.dst (vals.getD i .any)))
    (h : Q .normal { st with tmps := setAll (dstsOf ops) vals st.tmps, own := ow cs.length }) : AWP E (.region id ops true) Q st := fun w0 im0 cx a w h0 hG r => by
  have r' : Rel w0 im0 cx st a w.drew := ⟨r.defers, r.size, r.tmps, r.below.drew, r.imle, r.imold, r.imok, r.ownlen, fun i g k es h1 h2 => let h3 := r.own i g k es h1 h2; ⟨h3.new, h3.im, h3.blk⟩, r.tklen, r.tail, fun t T b h1 h2 => let h3 := r.tok t T b h1 h2; ⟨h3.new, h3.room, h3.im, h3.blk⟩, r.apart, r.glob, r.up, r.hole⟩
  simp only [flowOK, Bool.and_eq_true, List.all_eq_true, List.mem_range, decide_eq_true_eq] at hk
  obtain ⟨⟨⟨⟨hv, hops⟩, hchain⟩, hnd⟩, hrange⟩ := hk
  have hop : ∀ (i : Nat) (o : Oper), ops[i]? = some o → ∃ d, o.dst = some d ∧ lookI (dstsOf ops) 0 d = some i ∧ (∀ e ∈ o.after, Region.binds .any e = true → e.on < i) ∧ ∀ t ∈ Oper.looksAt ops o, ∀ j, lookI (dstsOf ops) 0 t = some j → j ∈ anc.getD i [] ∨ i ∈ anc.getD j [] := by
    intro i o ho
    have hi : i < ops.size := (Array.getElem?_eq_some_iff.1 ho).1
    have hh := hops i hi
    rw [ho] at hh
    simp only [Bool.and_eq_true] at hh
    obtain ⟨⟨⟨h1, h2⟩, h3⟩, h4⟩ := hh
    obtain ⟨d, hd⟩ := Option.isSome_iff_exists.1 h1
    rw [hd] at h2
    refine ⟨d, hd, by simpa using h2, fun e he hb => ?_, fun t ht j hj => ?_⟩
    · have := List.all_eq_true.1 h3 e (by simpa using he)
      rw [hb] at this; simpa using this
    · have := List.all_eq_true.1 h4 t ht
      rw [hj] at this; simpa using this
  have hdst : ∀ (t i : Nat), lookI (dstsOf ops) 0 t = some i → ∃ o, ops[i]? = some o ∧ o.dst = some t := by
    intro t i hl
    obtain ⟨j, e1, e2⟩ := lookI_get hl
    have : i = j := by omega
    subst this
    unfold dstsOf at e2
    rw [List.getElem?_map] at e2
    cases ho : ops.toList[i]? with
    | none => rw [ho] at e2; simp at e2
    | some o =>
      rw [ho] at e2
      exact ⟨o, by simpa using ho, by simpa using e2⟩
  have huniq : ∀ (t d i : Nat) (o : Oper), ops[i]? = some o → o.dst = some d → lookI (dstsOf ops) 0 t = some i → t = d := by
    intro t d i o ho hd hl
    obtain ⟨o', ho', hd'⟩ := hdst t i hl
    rw [ho] at ho'
    have : o = o' := Option.some.inj ho'
    subst this
    rw [hd] at hd'
    exact (Option.some.inj hd').symm
  have hzero : flowS (dstsOf ops) vals cs ow st (fun j => (Array.replicate ops.size false).getD j false) = st := by
    have hf : (fun j => (Array.replicate ops.size false).getD j false) = fun _ => false := by
      funext j
      by_cases hj : j < ops.size <;> simp [Array.getD, hj]
    rw [hf]
    unfold flowS
    have e1 : st.tmps.mapIdx (flowX (dstsOf ops) vals fun _ => false) = st.tmps := by
      apply List.ext_getElem?
      intro t
      rw [List.getElem?_mapIdx]
      cases st.tmps[t]? with
      | none => rfl
      | some x =>
        simp only [Option.map_some, Option.some.injEq, flowX]
        cases lookI (dstsOf ops) 0 t <;> simp
    have e2 : cs.countP (fun _ => false) = 0 := by rw [List.countP_eq_zero]; simp
    rw [e1, e2, ← hown]
  refine wp_region_any hm (flow_sound (ops := ops) (anc := anc) (cs := cs) (ow := ow) (vals := vals) (st := st) h0 hG hv (fun i o ho e he hb => (hop i o ho).choose_spec.2.2.1 e he hb) ?_ ?_ ops.size _ cx a _ (by simp) (by simp) (by intro m hm; by_cases hj : m < ops.size <;> simp [Array.getD, hj] at hm) ?_)
  · intro i o ho L hLi hanc hcl
    obtain ⟨d, hd, hlk, _, hlooks⟩ := hop i o ho
    have hread : ∀ t ∈ Oper.looksAt ops o, (flowS (dstsOf ops) vals cs ow st L).tmps.getD t .any = if t < st.tmps.length then expF (dstsOf ops) vals anc i st t else .any := fun t ht => flow_read fun j hj => by
      by_cases hc : j ∈ anc.getD i []
      · rw [hanc j hc]; symm; simpa using hc
      · have h2 := (hlooks t ht j hj).resolve_left hc
        have h3 : L j = false := by
          cases hb : L j with
          | false => rfl
          | true => have := hcl j hb i h2; rw [hLi] at this; simp at this
        rw [h3]; symm; simpa using hc
    have hput := (flow_put (st := st) (vals := vals) (L := L) hlk).resolve_right (fun hn => hn fun t ht => huniq t d i o ho hd ht)
    by_cases hic : i ∈ cs
    · obtain ⟨k, hk⟩ := List.mem_iff_getElem?.1 hic
      have hklt := (List.getElem?_eq_some_iff.1 hk).1
      have hbefore : ∀ j, j < k → L (cs.getD j 0) = true := fun j hj => hanc _ (by
        have := hchain k hklt j hj
        rw [show cs.getD k 0 = i by simp [List.getD_eq_getElem?_getD, hk]] at this
        simpa using this)
      have hbehind : ∀ j, k < j → j < cs.length → L (cs.getD j 0) = false := fun j hj hj2 => by
        cases hb : L (cs.getD j 0) with
        | false => rfl
        | true =>
          have := hcl _ hb i (by
            have := hchain j hj2 k hj
            rw [show cs.getD k 0 = i by simp [List.getD_eq_getElem?_getD, hk]] at this
            simpa using this)
          rw [hLi] at this; simp at this
      have hcnt : ∀ M : Nat → Bool, (∀ j, j < k → M (cs.getD j 0) = true) → (∀ j, k < j → j < cs.length → M (cs.getD j 0) = false) → cs.countP M = k + (if M i then 1 else 0) := by
        intro M h1 h2
        have hsplit : cs = cs.take k ++ i :: cs.drop (k + 1) := by
          have hd := List.drop_eq_getElem_cons hklt
          rw [(List.getElem?_eq_some_iff.1 hk).2] at hd
          rw [← hd, List.take_append_drop]
        rw [hsplit, List.countP_append, List.countP_cons]
        have e1 : (cs.take k).countP M = k := by
          have : (cs.take k).countP M = (cs.take k).length := List.countP_eq_length.2 fun x hx => by
            obtain ⟨j, hj⟩ := List.mem_iff_getElem?.1 hx
            rw [List.getElem?_take] at hj
            split at hj
            · rename_i hjk
              have := h1 j hjk
              rwa [show cs.getD j 0 = x by simp [List.getD_eq_getElem?_getD, hj]] at this
            · simp at hj
          rw [this, List.length_take]; omega
        have e2 : (cs.drop (k + 1)).countP M = 0 := List.countP_eq_zero.2 fun x hx => by
          obtain ⟨j, hj⟩ := List.mem_iff_getElem?.1 hx
          rw [List.getElem?_drop] at hj
          have hj2 : k + 1 + j < cs.length := (List.getElem?_eq_some_iff.1 hj).1
          have := h2 (k + 1 + j) (by omega) hj2
          rw [show cs.getD (k + 1 + j) 0 = x by simp [List.getD_eq_getElem?_getD, hj]] at this
          simp [this]
        rw [e1, e2]; simp
      have c1 : cs.countP L = k := by rw [hcnt L hbefore hbehind, hLi]; simp
      have hne : ∀ j, j ≠ k → j < cs.length → cs.getD j 0 ≠ i := fun j hj hj2 e => hj (by
        have h3 : cs[j]? = cs[k]? := by
          rw [hk, ← e, List.getElem?_eq_getElem hj2]; simp [List.getD_eq_getElem?_getD, List.getElem?_eq_getElem hj2]
        exact ((List.getElem?_inj hj2 hnd).1 h3))
      have c2 : cs.countP (updL L i) = k + 1 := by
        rw [hcnt (updL L i) (fun j hj => by show (if _ then true else _) = true; rw [hbefore j hj]; simp) (fun j hj hj2 => by show (if _ then true else _) = false; rw [if_neg (hne j (by omega) hj2), hbehind j hj hj2])]
        simp [updL]
      have := hc k i o hk ho (flowS (dstsOf ops) vals cs ow st L) rfl (by simp [flowS, c1]) rfl hrsv rfl (fun p h1 h2 => flow_all hvl h1 h2) hread
      rw [hd] at this
      have e : St.put { flowS (dstsOf ops) vals cs ow st L with own := ow (k + 1) } (some d) (vals.getD i .any) = flowS (dstsOf ops) vals cs ow st (updL L i) := by
        simp only [St.put, flowS]
        rw [hput, c2]
      rw [← e]
      exact this
    · have := hp i o ho hic (flowS (dstsOf ops) vals cs ow st L) rfl ⟨_, rfl⟩ rfl hrsv hread
      rw [hd] at this
      have e : St.put (flowS (dstsOf ops) vals cs ow st L) (some d) (vals.getD i .any) = flowS (dstsOf ops) vals cs ow st (updL L i) := by
        simp only [St.put, flowS]
        rw [hput, count_upd hic]
      rw [← e]
      exact this
  · intro L hL
    have e : flowS (dstsOf ops) vals cs ow st L = { st with tmps := setAll (dstsOf ops) vals st.tmps, own := ow cs.length } := by
      unfold flowS
      have e1 : st.tmps.mapIdx (flowX (dstsOf ops) vals L) = setAll (dstsOf ops) vals st.tmps := by
        apply List.ext_getElem?
        intro t
        rw [setAll_get _ _ _ _ hvl, List.getElem?_mapIdx]
        · congr 1
          funext x
          unfold flowX
          cases hl : lookI (dstsOf ops) 0 t with
          | none => rfl
          | some i =>
            obtain ⟨o, ho, _⟩ := hdst t i hl
            simp [hL i (Array.getElem?_eq_some_iff.1 ho).1]
        · intro d hd
          rcases Nat.lt_or_ge 1 ((dstsOf ops).count (some d)) with hcc | hcc
          · exfalso
            have hidx : ∀ i o, ops[i]? = some o → o.dst = some d → lookI (dstsOf ops) 0 d = some i := fun i o ho hd' => by
              obtain ⟨d2, e2, e3, _⟩ := hop i o ho
              rw [hd'] at e2
              rw [Option.some.inj e2]; exact e3
            have hdup : ∃ i j : Nat, i < j ∧ (dstsOf ops)[i]? = some (some d) ∧ (dstsOf ops)[j]? = some (some d) := by
              have key : ∀ l : List (Option Tmp), 1 < l.count (some d) → ∃ i j : Nat, i < j ∧ l[i]? = some (some d) ∧ l[j]? = some (some d) := by
                intro l
                induction l with
                | nil => intro h; simp at h
                | cons y l ih =>
                  intro h
                  rw [List.count_cons] at h
                  by_cases hy : y = some d
                  · subst hy
                    simp only [beq_self_eq_true, if_true] at h
                    have hm : some d ∈ l := List.count_pos_iff.1 (by omega)
                    obtain ⟨j, hj⟩ := List.mem_iff_getElem?.1 hm
                    exact ⟨0, j + 1, by omega, rfl, by simpa using hj⟩
                  · have : l.count (some d) > 1 := by
                      have hb : (y == some d) = false := by simpa using hy
                      rw [hb] at h; simpa using h
                    obtain ⟨i, j, hij, h1, h2⟩ := ih this
                    exact ⟨i + 1, j + 1, by omega, by simpa using h1, by simpa using h2⟩
              exact key _ hcc
            obtain ⟨i, j, hij, h1, h2⟩ := hdup
            have get : ∀ k : Nat, (dstsOf ops)[k]? = some (some d) → lookI (dstsOf ops) 0 d = some k := fun k hk => by
              unfold dstsOf at hk
              rw [List.getElem?_map] at hk
              cases ho : ops.toList[k]? with
              | none => rw [ho] at hk; simp at hk
              | some o =>
                rw [ho] at hk
                exact hidx k o (by simpa using ho) (by simpa using hk)
            have e1 := get i h1
            have e2 := get j h2
            rw [e1] at e2
            have := Option.some.inj e2
            omega
          · exact hcc
      have e2 : cs.countP L = cs.length := List.countP_eq_length.2 fun x hx => by
        obtain ⟨k, hk⟩ := List.mem_iff_getElem?.1 hx
        exact hL x (hrange x hx)
      rw [e1, e2]
    rw [e]; exact h
  · rw [hzero]; exact r'
end

section
variable {E : Env} {Q : Exit → St → Prop} {st : St} {ops : Array Oper} {l : List Oper}
theorem AWPL.guardT {dst : Option Tmp} {op : Op} {ty : TypeId} {pos : String} {after : Array Edge} {g : Nat × Bool} (h : AWant ops ⟨dst, op, ty, pos, after, some g⟩ st = some true) (hk : AWPL E ops (⟨dst, op, ty, pos, after, none⟩ :: l) Q st) : AWPL E ops (⟨dst, op, ty, pos, after, some g⟩ :: l) Q st := by
  intro w0 im0 cx a w h0 hG r
  have hw := want_ok r h
  have hh := hk w0 im0 cx a w h0 hG r
  unfold wpList at hh ⊢
  rw [if_pos hw]
  have hw2 : Region.wanted ⟨dst, op, ty, pos, after, none⟩ (yielded ops a.tmps) = true := rfl
  rw [if_pos hw2] at hh
  exact hh
theorem AWPL.guardF {dst : Option Tmp} {op : Op} {ty : TypeId} {pos : String} {after : Array Edge} {g : Nat × Bool} (h : AWant ops ⟨dst, op, ty, pos, after, some g⟩ st = some false) (hk : AWPL E ops l Q (st.put dst (.v undef))) : AWPL E ops (⟨dst, op, ty, pos, after, some g⟩ :: l) Q st := by
  intro w0 im0 cx a w h0 hG r
  have hw := want_ok r h
  unfold wpList
  rw [if_neg (by rw [hw]; simp)]
  exact hk w0 im0 cx _ w h0 hG (r.put dst (.base (.v undef)))
end
theorem wkO_self {no nt : Nat} : ∀ {own : List (Option (List AV))}, (∀ es, some es ∈ own → ∀ e ∈ es, ∀ z ∈ e.leaves, z.bel no nt = true) → WkO no nt own own
  | [], _ => trivial
  | x :: xs, h => ⟨.inr ⟨rfl, fun es e => h es (by rw [e]; exact List.mem_cons_self ..)⟩, wkO_self fun es hes => h es (List.mem_cons_of_mem _ hes)⟩
theorem wkK_self : ∀ {tk : List Nat}, WkK tk tk
  | [] => trivial
  | _ :: _ => ⟨rfl, wkK_self⟩
theorem Rel.drewW {w0 : World} {im0 : Base} {c : Ctx} {st : St} {a : Act} {w : World} (r : Rel w0 im0 c st a w) : Rel w0 im0 c st a w.drew :=
  ⟨r.defers, r.size, r.tmps, r.below.drew, r.imle, r.imold, r.imok, r.ownlen, fun i g k es h1 h2 => let h3 := r.own i g k es h1 h2; ⟨h3.new, h3.im, h3.blk⟩, r.tklen, r.tail, fun t T b h1 h2 => let h3 := r.tok t T b h1 h2; ⟨h3.new, h3.room, h3.im, h3.blk⟩, r.apart, r.glob, r.up, r.hole⟩
theorem AWPL.forget {E : Env} {ops : Array Oper} {l : List Oper} {Q : Exit → St → Prop} {s : St} (i : Nat) {t k : Nat} {es : List AV} (hi : s.tmps[i]? = some (.sl (some t) k es)) (hw : AWPL E ops l Q { s with tmps := s.tmps.set i (.sl none k es) }) : AWPL E ops l Q s := by
  intro w0 im0 cx a w h0 hG r
  exact hw w0 im0 cx a w h0 hG (r.setTmp fun v hv => .base (r.tmps i _ v hi hv).sl_base)
end Go.Abs
