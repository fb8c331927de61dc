/- Calls that set a cell of an own block; a made row of one's own; a callee that defers one call. -/
import Derived.Test.YtceiiajacnihjaaLo
import Derived.Defers
set_option linter.unusedVariables false
set_option linter.unusedSimpArgs false
namespace Go.Abs
open Go Go.RowKit

section
variable {P : Program} {w0 : World} {im0 : Base} {c : Ctx} {st : St} {a : Act} {w : World}

/-- A cell of an own block: what it holds, and that it is not frozen. -/
theorem Rel.ownCell (r : Rel w0 im0 c st a w) {id g q idx off : Nat} {es : List AV} {e : AV} {x : Value}
    (hb : c.β[id]? = some (some (g, q))) (ho : st.own[id]? = some (some es)) (he : es[idx]? = some e) (hl : e.leaves[off]? = some (.v x)) :
    w.cell? ⟨g, idx * q + off, none⟩ = some x ∧ w.frozen? ⟨g, idx * q + off, none⟩ = false := by
  obtain ⟨cs, ty, lo, hi, hblk, hfro, hsz, hkk, hcell⟩ := (r.own id g q es hb ho).blk
  obtain ⟨v, hv, hvr, _⟩ := hcell idx e off _ he hl
  have hvx : v = x := hvr.inv_v
  subst hvx
  have hlt : idx * q + off < cs.size := (Array.getElem?_eq_some_iff.1 hv).1
  refine ⟨by simp [World.cell?, hblk, hv], ?_⟩
  simp only [World.frozen?, hblk, Bool.and_eq_false_iff, decide_eq_false_iff_not]
  rcases hfro with h | h <;> omega

/-- A cell of an own block is set. -/
theorem Rel.setCell {t : TypeId} (ht : tsz P t = some 1) (r : Rel w0 im0 c st a w) {id g q idx off : Nat} {es : List AV} {e : AV} {v : Value}
    (hb : c.β[id]? = some (some (g, q))) (ho : st.own[id]? = some (some es)) (he : es[idx]? = some e) (hoff : off + 1 ≤ e.leaves.length)
    (hcs : v.cells = #[v]) (hone : v.oneCell' = true) :
    Rel w0 im0 c { st with own := st.own.set id (some (es.set idx (stEl e off (.v v)))) } a (w.setCell ⟨g, idx * q + off, none⟩ v) := by
  have ha : VR c (.ptr id idx off) (.pointer (some ⟨g, idx * q + off, none⟩)) := .ptr hb
  have hx : VR c (.v v) v := .base (.v v)
  obtain ⟨w', st', h1, h2, h3⟩ := store_ok (P := P) r (t := t) ha hx (K := fun s => s = { st with own := st.own.set id (some (es.set idx (stEl e off (.v v)))) })
    ⟨1, es, e, ht, ho, he, hone, by simp [AV.leaves, AV.leafy, hone], rfl, hoff, rfl⟩
  subst h3
  have hw : w' = w.setCell ⟨g, idx * q + off, none⟩ v := by
    obtain ⟨cs, ty, lo, hi, hblk, hfro, hsz, hkk, hcell⟩ := (r.own id g q es hb ho).blk
    have hq := hkk idx e he
    have hidx : idx < es.length := by
      rcases Nat.lt_or_ge idx es.length with h' | h'
      · exact h'
      · rw [List.getElem?_eq_none h'] at he; simp at he
    have hmul : idx * q + q ≤ es.length * q := by rw [← Nat.succ_mul]; exact Nat.mul_le_mul_right q hidx
    have hfro' : ∀ o, o < cs.toList.length → ¬ (lo ≤ o ∧ o < hi) := fun o h1 h2 => by
      have h1 : o < cs.size := by simpa using h1
      rcases hfro with h | h <;> omega
    have hsz' : es.length * q ≤ cs.toList.length := by simpa using hsz
    have hrun := run_storePut (P := P) g (idx * q + off) ty lo hi [v] 0 cs.toList w (by simpa using hblk) hfro' (by simp; omega) (by simp [hone])
    have hsc : w.setRow g (putV cs.toList (idx * q + off + 0) [v]).toArray = w.setCell ⟨g, idx * q + off, none⟩ v := by
      rw [setCell_eq_setRow w g (idx * q + off) cs ty (lo, hi) v hblk]
      congr 1
      apply Array.ext'
      simp [putV]
    rw [hsc] at hrun
    have hst : (Instr.storeAt t (.pointer (some ⟨g, idx * q + off, none⟩)) v).run P w = .ok () (w.setCell ⟨g, idx * q + off, none⟩ v) := by
      simp only [Instr.storeAt, Instr.sureAddr, storeVar, Sem.run_bind, Sem.run_pure, Result.andThen_ok, tsz_run ht]
      simp [hcs, hrun]
    rw [hst] at h1
    simp only [Result.ok.injEq, true_and] at h1
    exact h1.symm
  rw [← hw]
  exact h2
end

section
variable {E : Env} {Q : Exit → St → Prop} {st : St} {ops : Array Oper} {l : List Oper}

/-- A call that sets one cell of an own block. -/
theorem AWPL.callSet {t : TypeId} (ht : tsz E.P t = some 1) {g : FuncId} {dst : Option Tmp} {f : Operand} {xs : Array Operand} {tys : Array TypeId} {ty : TypeId} {pos : String} {after : Array Edge}
    (hc : callable E.P g = true) (he : st.ev f = .fn g []) {id idx off : Nat} {ys : List Value} {es : List AV} {e : AV} {x y : Value}
    (hx : xs.toList.map st.ev = .ptr id idx off :: ys.map AV.v) (ho : st.own[id]? = some (some es)) (hel : es[idx]? = some e) (hl : e.leaves[off]? = some (.v x))
    (hcs : y.cells = #[y]) (hone : y.oneCell' = true)
    (hcall : ∀ (a : Addr) (w : World), w.cell? a = some x → w.frozen? a = false → Calls E.P g (Value.pointer (some a) :: ys).toArray w fun e w' => e = .returned (.tuple #[]) ∧ w' = w.setCell a y)
    (h : AWPL E ops l Q (St.put { st with own := st.own.set id (some (es.set idx (stEl e off (.v y)))) } dst (.tup []))) :
    AWPL E ops (⟨dst, .call ⟨.value f, xs, tys⟩, ty, pos, after, none⟩ :: l) Q st := by
  refine AWPL.callRaw hc he fun w0 im0 cx a w vs h0 hG r hpw => ?_
  rw [List.append_nil, hx] at hpw
  obtain ⟨hn, hp⟩ := hpw
  cases vs with
  | nil => simp at hn
  | cons v vs =>
    obtain ⟨g', q, hb, rfl⟩ := (hp 0 _ v rfl rfl).inv_ptr
    have hvs : vs = ys := by
      apply List.ext_getElem?
      intro i
      rcases Nat.lt_or_ge i ys.length with hi | hi
      · have h1 : i < vs.length := by simp at hn; omega
        have := hp (i + 1) (.v ys[i]) vs[i] (by simp [hi]) (by simp [h1])
        rw [List.getElem?_eq_getElem h1, List.getElem?_eq_getElem hi, this.inv_v]
      · rw [List.getElem?_eq_none hi, List.getElem?_eq_none (by simp at hn; omega)]
    subst hvs
    obtain ⟨h1, h2⟩ := r.ownCell hb ho hel hl
    refine (hcall _ w h1 h2).mono ?_
    rintro e' w' ⟨rfl, rfl⟩
    have hoff : off + 1 ≤ e.leaves.length := lt_of_get hl
    exact ⟨_, rfl, cx, _, .tup [], r.setCell ht hb ho hel hoff hcs hone, .base (.tup [] [] rfl (by simp)), h⟩

/-- A call that looks at one cell of an own block. -/
theorem AWPL.callLook {g : FuncId} {dst : Option Tmp} {f : Operand} {xs : Array Operand} {tys : Array TypeId} {ty : TypeId} {pos : String} {after : Array Edge}
    (hc : callable E.P g = true) (he : st.ev f = .fn g []) {id idx off : Nat} {es : List AV} {e : AV} {x y : Value}
    (hx : xs.toList.map st.ev = [.ptr id idx off]) (ho : st.own[id]? = some (some es)) (hel : es[idx]? = some e) (hl : e.leaves[off]? = some (.v x))
    (hcall : ∀ (a : Addr) (w : World), w.cell? a = some x → Calls E.P g #[.pointer (some a)] w fun e w' => e = .returned y ∧ w' = w)
    (h : AWPL E ops l Q (St.put st dst (.v y))) :
    AWPL E ops (⟨dst, .call ⟨.value f, xs, tys⟩, ty, pos, after, none⟩ :: l) Q st := by
  refine AWPL.callRaw hc he fun w0 im0 cx a w vs h0 hG r hpw => ?_
  rw [List.append_nil, hx] at hpw
  obtain ⟨hn, hp⟩ := hpw
  obtain ⟨v, rfl⟩ : ∃ v, vs = [v] := by
    match vs, hn with
    | [v], _ => exact ⟨v, rfl⟩
  obtain ⟨g', q, hb, rfl⟩ := (hp 0 _ v rfl rfl).inv_ptr
  obtain ⟨h1, h2⟩ := r.ownCell hb ho hel hl
  refine (hcall _ w h1).mono ?_
  rintro e' w' ⟨rfl, rfl⟩
  exact ⟨_, rfl, cx, st, _, r, .base (.v _), h⟩

/-- What is handed on where one call may have been deferred. -/
def HandsD (w0 : World) (im0 : Base) (uf : FuncId) (J D : St → Prop) (a : Act) (w : World) : Prop :=
  Hands w0 im0 J a w ∨ ∃ u : Value, Hands w0 ⟨im0.im, u :: im0.ex, ⟨.fn (.func uf) #[], #[u]⟩ :: im0.df⟩ D a w

/-- Code in which one call of 'uf' may be deferred: J tells the ends without it, D those with it (its argument lies at the head of 'up'). -/
def DAWP (E : Env) (uf : FuncId) (c : Code) (J D : Exit → St → Prop) (st : St) : Prop :=
  ∀ (w0 : World) (im0 : Base) (cx : Ctx) (a : Act) (w : World), E.ok w0 → GOK E im0.im → Rel w0 im0 cx st a w → c.wp E.P (fun e a' w' => HandsD w0 im0 uf (J e) (D e) a' w') a w

theorem DAWP.of {uf : FuncId} {c : Code} {J D : Exit → St → Prop} (h : AWP E c J st) : DAWP E uf c J D st := fun w0 im0 cx a w h0 hG r =>
  wp_mono (h w0 im0 cx a w h0 hG r) fun _ _ _ hh => .inl hh

theorem DAWP.seq {uf : FuncId} {x y : Code} {J D : Exit → St → Prop} (h : DAWP E uf x (AThen (DAWP E uf y J D) J) (AThen (AWP E y D) D) st) : DAWP E uf (.seq x y) J D st := fun w0 im0 cx a w h0 hG r => by
  refine wp_seq (wp_mono (h w0 im0 cx a w h0 hG r) fun e a' w' hh => ?_)
  rcases hh with ⟨c, s, r', q⟩ | ⟨u, c, s, r', q⟩
  · cases e <;> first | exact q w0 im0 c a' w' h0 hG r' | exact .inl ⟨c, s, r', q⟩
  · cases e <;> first | (exact wp_mono (q w0 ⟨im0.im, u :: im0.ex, ⟨.fn (.func uf) #[], #[u]⟩ :: im0.df⟩ c a' w' h0 hG r') (fun e2 a2 w2 hh => (Or.inr ⟨u, hh⟩ : HandsD w0 im0 uf (J e2) (D e2) a2 w2))) | exact .inr ⟨u, c, s, r', q⟩

theorem DAWP.seqA {uf : FuncId} {x y : Code} {J D : Exit → St → Prop} (h : ∀ K : St → Prop, (∀ s, DAWP E uf y J D s → K s) → AWP E x (AThen K J) st) : DAWP E uf (.seq x y) J D st :=
  DAWP.seq (DAWP.of (h _ fun _ h => h))

theorem DAWP.regionD {uf : FuncId} {id : Nat} {l1 l : List Oper} {f x : Operand} {tys : Array TypeId} {ty : TypeId} {pos : String} {after : Array Edge} {J D : Exit → St → Prop}
    (hl : l = l1 ++ [⟨none, .defer ⟨.value f, #[x], tys⟩, ty, pos, after, none⟩])
    (h : AList E l.toArray l1 st fun s => s.ev f = .fn uf [] ∧ D .normal { s with up := s.ev x :: s.up }) :
    DAWP E uf (.region id l.toArray false) J D st := fun w0 im0 cx a w h0 hG r => by
  refine wp_region_lit ?_
  have hh := alist_app (l2 := [⟨none, .defer ⟨.value f, #[x], tys⟩, ty, pos, after, none⟩]) (R := fun e a' w' => HandsD w0 im0 uf (J e) (D e) a' w') h0 hG (fun a' w' hh => ?_) l1 r h
  · rw [← hl] at hh; exact hh
  · obtain ⟨c', s, r', hf, hd⟩ := hh
    refine wpList_step (fun K' hK' => ?_)
    have hw : Region.wanted ⟨none, .defer ⟨.value f, #[x], tys⟩, ty, pos, after, none⟩ (yielded l.toArray a'.tmps) = true := rfl
    rw [if_pos hw]
    have hv := r'.ev f
    rw [hf] at hv
    obtain ⟨us, hfe, hnu, hpu⟩ := hv.inv_fn
    have hus : us = [] := List.eq_nil_of_length_eq_zero (by simpa using hnu)
    subst hus
    have hrun : (execOp a'.eval ⟨none, .defer ⟨.value f, #[x], tys⟩, ty, pos, after, none⟩).run E.P w' = .ok (.defer ⟨.fn (.func uf) #[], #[a'.eval x]⟩) w' := by
      simp [execOp, resolve, hfe, Deferred.ofValue, Sem.run_bind, Sem.run_pure, Result.andThen_ok]
    unfold Oper.wp
    rw [hrun]
    refine hK' _ _ ?_
    show HandsD _ _ _ _ _ _ _
    refine .inr ⟨a'.eval x, c', { s with up := s.ev x :: s.up }, ?_, hd⟩
    exact ⟨⟨by show _ :: a'.defers = _; rw [r'.defers.1], r'.defers.2⟩, r'.size, r'.tmps, r'.below, r'.imle, r'.imold, r'.imok, r'.ownlen, r'.own, r'.tklen, r'.tail, r'.tok, r'.apart, r'.glob, ⟨by simp [r'.up.1], fun i y v h1 h2 => by
      cases i with
      | zero => simp only [List.getElem?_cons_zero, Option.some.injEq] at h1 h2; subst h1; subst h2; exact r'.ev x
      | succ i => exact r'.up.2 i y v (by simpa using h1) (by simpa using h2)⟩, r'.hole⟩

/-- The end of a callee that has deferred a call which sets one cell of an own block. -/
def DInPost (P : Program) (rs : List ResultVar) (st : St) (x y : Value) (K : St → AV → Prop) : Exit → St → Prop
  | .normal, s | .ret, s => ∃ id idx off es e, s.up = .ptr id idx off :: (st.tmps ++ st.up) ∧ s.own[id]? = some (some es) ∧ es[idx]? = some e ∧ e.leaves[off]? = some (.v x) ∧
      ARes P { s with own := s.own.set id (some (es.set idx (stEl e off (.v y)))) } rs fun l => K { s with tmps := st.tmps, up := st.up, own := s.own.set id (some (es.set idx (stEl e off (.v y)))) } (tupOf l)
  | _, _ => False

/-- A call whose body is walked here; one call may be deferred in it. -/
theorem AWPL.callD {t : TypeId} (ht : tsz E.P t = some 1) {uf : FuncId} {x y : Value} (hcs : y.cells = #[y]) (hone : y.oneCell' = true)
    (hu : ∀ (a : Addr) (u : FrameMode) (w : World), w.cell? a = some x → w.frozen? a = false → CallsD E.P uf #[.pointer (some a)] u w fun e u' w' => u' = u ∧ (e = .returned (.tuple #[]) ∧ w' = w.setCell a y))
    (hiu : ∀ (v : Value) (w : World), (invoke (.fn (.func uf) #[]) #[v]).run E.P w = .ok (.enter uf #[v]) w)
    {g : FuncId} {fn : Func} {body : Code} {n : Nat} {rs : List ResultVar} {caps : List AV} {dst : Option Tmp} {f : Operand} {xs : Array Operand} {tys : Array TypeId} {ty : TypeId} {pos : String} {after : Array Edge}
    (hf : E.P.funcs[g]? = some fn) (hb : fn.body = some body) (hn : fn.ntmps = n) (hr : fn.results.toList = rs) (hc : callable E.P g = true) (he : st.ev f = .fn g caps) (hrsv : st.rsv = none)
    (h : DAWP E uf body (AInPost E.P rs st fun s z => AWPL E ops l Q (s.put dst z)) (DInPost E.P rs st x y fun s z => AWPL E ops l Q (s.put dst z)) { st with tmps := (xs.toList.map st.ev ++ caps) ++ List.replicate (n - (xs.toList.map st.ev ++ caps).length) (.v undef), up := st.tmps ++ st.up }) :
    AWPL E ops (⟨dst, .call ⟨.value f, xs, tys⟩, ty, pos, after, none⟩ :: l) Q st := by
  intro w0 im0 cx a w h0 hG r
  subst hn; subst hr
  refine wpList_step (fun K' hK' => ?_)
  have hw : Region.wanted ⟨dst, .call ⟨.value f, xs, tys⟩, ty, pos, after, none⟩ (yielded ops a.tmps) = true := rfl
  rw [if_pos hw]
  have hv := r.ev f
  rw [he] at hv
  obtain ⟨us, hfe, hnu, hpu⟩ := hv.inv_fn
  have hargs : Pw cx (xs.toList.map st.ev ++ caps) (xs.toList.map a.eval ++ us) := by
    refine ⟨by simp [hnu], fun i x v h1 h2 => ?_⟩
    rcases getElem?_app _ _ _ _ h1 with ⟨l1, h1⟩ | ⟨l1, h1⟩
    · rw [List.getElem?_append_left (by simpa using l1)] at h2
      rw [List.getElem?_map] at h1 h2
      cases hc : xs.toList[i]? with
      | none => simp [hc] at h1
      | some z => simp only [hc, Option.map_some, Option.some.injEq] at h1 h2; subst h1; subst h2; exact r.ev z
    · rw [List.getElem?_append_right (by simpa using l1)] at h2
      have : (xs.toList.map a.eval).length = (xs.toList.map st.ev).length := by simp
      rw [this] at h2
      exact hpu _ _ _ h1 h2
  have hrun : (execOp a.eval ⟨dst, .call ⟨.value f, xs, tys⟩, ty, pos, after, none⟩).run E.P w = .ok (.enter g (xs.toList.map a.eval ++ us).toArray) w := by
    unfold callable at hc
    simp only [hf, Bool.and_eq_true, Bool.not_eq_true'] at hc
    obtain ⟨hn1, hn2⟩ := hc
    have hbn : fn.body.isNone = false := by rw [hb]; rfl
    have harr : Array.map a.eval xs ++ us.toArray = (xs.toList.map a.eval ++ us).toArray := by
      apply Array.ext'
      simp
    have he' : a.eval f = .func (.func g) #[] us.toArray := hfe
    simp only [execOp, resolve, he', Deferred.ofValue, Sem.run_bind, Sem.run_pure, Result.andThen_ok, invoke, callFunc, run_program, hf, hn1, Bool.false_eq_true, if_false, hbn, Array.empty_append, harr]
  unfold Oper.wp
  rw [hrun]
  simp only [Oper.upon]
  generalize hvs : xs.toList.map a.eval ++ us = vs at *
  generalize hys : xs.toList.map st.ev ++ caps = ys at *
  have hrel : Rel w0 ⟨im0.im, a.tmps.toList ++ im0.ex, []⟩ cx { st with tmps := ys ++ List.replicate (fn.ntmps - ys.length) (.v undef), up := st.tmps ++ st.up } { tmps := vs.toArray ++ Array.replicate (fn.ntmps - vs.toArray.size) undef, defers := [] } w := by
    refine ⟨⟨rfl, r.defers.2⟩, by simp [hargs.1], ?_, r.below, r.imle, r.imold, r.imok, r.ownlen, r.own, r.tklen, r.tail, r.tok, r.apart, r.glob, ⟨?_, ?_⟩, r.hole⟩
    · intro i x v h1 h2
      rcases getElem?_app _ _ _ _ h1 with ⟨l1, h1⟩ | ⟨l1, h1⟩
      · have : i < vs.length := by rw [hargs.1]; exact l1
        rw [Array.getElem?_append_left (by simpa using this)] at h2
        exact hargs.2 i x v h1 (by simpa using h2)
      · have hlen : vs.length = ys.length := hargs.1
        rw [Array.getElem?_append_right (by simp; omega)] at h2
        have e1 : x = .v undef := by
          have := List.mem_of_getElem? h1
          simp only [List.mem_replicate] at this
          exact this.2
        have e2 : v = undef := by
          have := Array.mem_of_getElem? h2
          simp only [Array.mem_replicate] at this
          exact this.2
        subst e1; subst e2
        exact .base (.v _)
    · show (a.tmps.toList ++ im0.ex).length = (st.tmps ++ st.up).length
      rw [List.length_append, List.length_append, r.up.1, Array.length_toList, r.size]
    · intro i x v h1 h2
      have h1 : (st.tmps ++ st.up)[i]? = some x := h1
      have h2 : (a.tmps.toList ++ im0.ex)[i]? = some v := h2
      rcases getElem?_app _ _ _ _ h1 with ⟨l1, h1⟩ | ⟨l1, h1⟩
      · rw [List.getElem?_append_left (by rw [Array.length_toList, r.size]; exact l1)] at h2
        exact r.tmps i x v h1 (by simpa using h2)
      · rw [List.getElem?_append_right (by rw [Array.length_toList, r.size]; exact l1), Array.length_toList, r.size] at h2
        exact r.up.2 _ x v h1 h2
  -- the caller's state behind the call
  have back : ∀ (c' : Ctx) (st' : St) (ex : List Value) (a' : Act) (w' : World) (df : List Deferred) (k : List AV) (l' : List AV) (us' : List Value), Rel w0 ⟨im0.im, ex, df⟩ c' st' a' w' → st'.up = k ++ (st.tmps ++ st.up) → (∃ ke, ke.length = k.length ∧ ex = ke ++ (a.tmps.toList ++ im0.ex)) → Pw c' l' us' →
      AWPL E ops l Q (St.put { st' with tmps := st.tmps, up := st.up } dst (tupOf l')) → K' (a.put dst (if us'.length = 1 then us'.headD undef else .tuple us'.toArray)) w' := by
    rintro c' st' ex a' w' df k l' us' r' hup ⟨ke, hke, rfl⟩ h2 h3
    have hup1 := r'.up.1
    have hup2 := r'.up.2
    have hup2' : ∀ (i : Nat) (x : AV) (v : Value), (st.tmps ++ st.up)[i]? = some x → (a.tmps.toList ++ im0.ex)[i]? = some v → VR c' x v := fun i x v e1 e2 => by
      refine hup2 (k.length + i) x v ?_ ?_
      · rw [hup, List.getElem?_append_right (by omega), Nat.add_sub_cancel_left]; exact e1
      · show (ke ++ _)[_]? = _
        rw [List.getElem?_append_right (by omega), hke, Nat.add_sub_cancel_left]; exact e2
    have rb : Rel w0 im0 c' { st' with tmps := st.tmps, up := st.up } a w' := by
      refine ⟨r.defers, r.size, fun i x v e1 e2 => ?_, r'.below, r'.imle, r'.imold, r'.imok, r'.ownlen, r'.own, r'.tklen, r'.tail, r'.tok, r'.apart, r'.glob, ⟨r.up.1, fun i x v e1 e2 => ?_⟩, r'.hole⟩
      · have e1 : st.tmps[i]? = some x := e1
        have hlt : i < st.tmps.length := (List.getElem?_eq_some_iff.1 e1).1
        refine hup2' i x v ?_ ?_
        · rw [List.getElem?_append_left hlt]; exact e1
        · rw [List.getElem?_append_left (by rw [Array.length_toList, r.size]; exact hlt)]; simpa using e2
      · have e1 : st.up[i]? = some x := e1
        refine hup2' (st.tmps.length + i) x v ?_ ?_
        · rw [List.getElem?_append_right (by omega)]
          rw [Nat.add_sub_cancel_left]; exact e1
        · rw [List.getElem?_append_right (by rw [Array.length_toList, r.size]; omega), Array.length_toList, r.size, Nat.add_sub_cancel_left]; exact e2
    refine hK' _ _ (h3 w0 im0 c' _ w' h0 hG (rb.put dst ?_))
    cases l' with
    | nil =>
      have : us' = [] := List.eq_nil_of_length_eq_zero h2.1
      subst this
      exact .tup [] [] rfl (by simp)
    | cons x l' => cases l' with
      | nil =>
        cases us' with
        | nil => have := h2.1; simp at this
        | cons u us' =>
          have : us' = [] := List.eq_nil_of_length_eq_zero (by have := h2.1; simpa using this)
          subst this
          exact h2.2 0 x u rfl rfl
      | cons y l' =>
        have hl2 : ¬ us'.length = 1 := by rw [h2.1]; simp
        rw [if_neg hl2]
        exact .tup _ _ h2.1 h2.2
  refine (calls_of_wp_defers (R := fun e w' => ∃ v, e = .returned v ∧ K' (a.put dst v) w') hf hb ?_).mono ?_
  · refine wp_mono (h w0 ⟨im0.im, a.tmps.toList ++ im0.ex, []⟩ _ _ w h0 hG hrel) fun e a' w' hh => ?_
    rcases hh with ⟨c', st', r', q⟩ | ⟨u, c', st', r', q⟩
    · have fin : (st'.up = st.tmps ++ st.up ∧ ARes E.P st' fn.results.toList fun l' => AWPL E ops l Q (St.put { st' with tmps := st.tmps, up := st.up } dst (tupOf l'))) →
          Leaves E.P fn a'.tmps (fun e w' => ∃ v, e = .returned v ∧ K' (a.put dst v) w') a'.defers .returning w' := by
        rintro ⟨hup, q⟩
        obtain ⟨l', us', h1, h2, h3⟩ := res_ok r' q
        rw [r'.defers.1]
        exact ⟨_, results_run h1, _, rfl, back c' st' _ a' w' [] [] l' us' r' hup ⟨[], rfl, rfl⟩ h2 h3⟩
      cases e <;> first | exact fin q | exact q.elim
    · have fin : DInPost E.P fn.results.toList st x y (fun s z => AWPL E ops l Q (s.put dst z)) .ret st' →
          Leaves E.P fn a'.tmps (fun e w' => ∃ v, e = .returned v ∧ K' (a.put dst v) w') a'.defers .returning w' := by
        rintro ⟨id, idx, off, es, e, hup, ho, hel, hl, q⟩
        rw [r'.defers.1]
        have hu0 : VR c' (.ptr id idx off) u := r'.up.2 0 _ u (by rw [hup]; rfl) rfl
        obtain ⟨g', q', hb', rfl⟩ := hu0.inv_ptr
        obtain ⟨h1, h2⟩ := r'.ownCell hb' ho hel hl
        refine leaves_cons (f := uf) (args := #[_]) (by simp) (hiu _ _) ?_
        refine (hu _ .returning w' h1 h2).mono ?_
        rintro e' u' w'' ⟨rfl, rfl, rfl⟩
        have r2 := r'.setCell ht hb' ho hel (lt_of_get hl) hcs hone
        obtain ⟨l', us', h1, h2, h3⟩ := res_ok r2 q
        exact ⟨_, results_run h1, _, rfl, back c' _ _ a' _ _ [_] l' us' r2 hup ⟨[_], rfl, rfl⟩ h2 h3⟩
      cases e <;> first | exact fin q | exact q.elim
  · rintro e w' ⟨v, rfl, hk⟩
    exact hk
end
end Go.Abs
