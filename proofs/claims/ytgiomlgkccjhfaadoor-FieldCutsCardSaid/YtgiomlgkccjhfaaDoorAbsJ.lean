/- Calls by contract; one operation; a list of operations. -/
import Derived.Test.YtgiomlgkccjhfaaDoorAbsI
namespace Go.Abs
open Go Go.RowKit
set_option linter.unusedVariables false
set_option linter.unusedSimpArgs false

def Pw0 (im : Im) (xs : List AV) (vs : List Value) : Prop := vs.length = xs.length ∧ ∀ (i : Nat) (x : AV) (v : Value), xs[i]? = some x → vs[i]? = some v → VR0 im x v

/-- A program; what is known of the world when a call begins (it must stay as memory grows); what is known of package-level variables. -/
structure Env where
  P : Program
  ok : World → Prop
  mono : ∀ w w', Below w.heap.size w w' → ok w → ok w'
  gl : Nat → Option (List AV)
def GOK (E : Env) (im : Im) : Prop := ∀ (g : Nat) (cs : List AV), E.gl g = some cs → VR0 im (.rptr cs) (.pointer (some ⟨g, 0, none⟩))
theorem GOK.mono {E : Env} {a b : Im} (h : GOK E a) (k : a.le b) : GOK E b := fun g cs e => (h g cs e).mono k
theorem below_ok {E : Env} {w0 w : World} (h : Below w0.heap.size w0 w) (k : E.ok w0) : E.ok w := E.mono w0 w h k

/-- A contract: called with values told by 'args' (nothing own among them), in whatever world, f returns a value told by r, tokens for what is new in it; old memory stays. -/
def ACalls (E : Env) (f : FuncId) (args : List AV) (R : AV → List Nat → Prop) : Prop :=
  ∀ (w : World) (im : Im) (vs : List Value), E.ok w → GOK E im → (∀ (b o : Nat) (x : Value), im b o = some x → w.cell? ⟨b, o, none⟩ = some x) → Pw0 im args vs →
    Calls E.P f vs.toArray w fun e w' => ∃ v r tks im', e = .returned v ∧ Below w.heap.size w w' ∧ im.le im' ∧ (∀ (b o : Nat), b < w.heap.size → im' b o = im b o) ∧
      (∀ (b o : Nat) (x : Value), im' b o = some x → w'.cell? ⟨b, o, none⟩ = some x) ∧ ToksOK im' w.heap.size w' tks ∧ VR ⟨[], tks, im'⟩ r v ∧ R r (tks.map (·.tail))

theorem ACalls.mono {E : Env} {f : FuncId} {args : List AV} {R S : AV → List Nat → Prop} (h : ACalls E f args R) (hs : ∀ r t, R r t → S r t) : ACalls E f args S :=
  fun w im vs h0 hg h1 h2 => (h w im vs h0 hg h1 h2).mono fun _ _ ⟨v, r, tks, im', a, b, d, e, f, g, i, j⟩ => ⟨v, r, tks, im', a, b, d, e, f, g, i, hs _ _ j⟩

def AV.shift1 (n : Nat) : AV → AV
  | .sl (some t) k es => .sl (some (t + n)) k es
  | .sl none k es => .sl none k es
  | .v x => .v x
  | .nilS => .nilS
  | .rptr cs => .rptr cs
  | .fn f [] => .fn f []
  | _ => .any
def AV.shift2 (n : Nat) : AV → AV
  | .agg cs => .agg (cs.map (AV.shift1 n))
  | x => x.shift1 n
def AV.shift (n : Nat) : AV → AV
  | .tup cs => .tup (cs.map (AV.shift2 n))
  | x => x.shift2 n

section
variable {E : Env} {w0 : World} {im0 : Im} {c : Ctx} {st : St} {a : Act} {w : World}

theorem VR.shift1 {tks : List Tok} {im : Im} {x : AV} {v : Value} (h : VR ⟨[], tks, im⟩ x v) (β : List (Option (Nat × Nat))) (tk : List Tok) : VR ⟨β, tk ++ tks, im⟩ (x.shift1 tk.length) v := by
  cases x with
  | any => exact .base (.any _)
  | v x => cases h.inv_v; exact .base (.v _)
  | agg cs => exact .base (.any _)
  | tup cs => exact .base (.any _)
  | nilS => cases h.inv_nilS; exact .base .nilS
  | sl t k es =>
    cases t with
    | none => exact .base h.sl_base
    | some t =>
      cases h with
      | base h => cases h
      | tok hT h0 hk hle hcur => exact .tok (by rw [List.getElem?_append_right (by omega)]; simpa using hT) h0 hk hle hcur
  | mu => exact .base (.any _)
  | ptr => exact .base (.any _)
  | rptr cs => obtain ⟨b, o, rfl, h0⟩ := h.rptr_pt; exact .base h0
  | fn f cs =>
    cases cs with
    | nil =>
      obtain ⟨vs, rfl, hn, _⟩ := h.inv_fn
      have : vs = [] := List.eq_nil_of_length_eq_zero (by simpa using hn)
      subst this
      exact .base (.fn f [] [] rfl (by simp))
    | cons => exact .base (.any _)

theorem VR.shift2 {tks : List Tok} {im : Im} {x : AV} {v : Value} (h : VR ⟨[], tks, im⟩ x v) (β : List (Option (Nat × Nat))) (tk : List Tok) : VR ⟨β, tk ++ tks, im⟩ (x.shift2 tk.length) v := by
  cases x with
  | agg cs =>
    obtain ⟨vs, rfl, hn, hp⟩ := h.inv_agg
    refine .agg _ vs (by simp [hn]) (fun i y u h1 h2 => ?_)
    rw [List.getElem?_map] at h1
    cases hc : cs[i]? with
    | none => simp [hc] at h1
    | some z => simp only [hc, Option.map_some, Option.some.injEq] at h1; subst h1; exact (hp i z u hc h2).shift1 β tk
  | _ => exact h.shift1 β tk

theorem VR.shift {tks : List Tok} {im : Im} {x : AV} {v : Value} (h : VR ⟨[], tks, im⟩ x v) (β : List (Option (Nat × Nat))) (tk : List Tok) : VR ⟨β, tk ++ tks, im⟩ (x.shift tk.length) v := by
  cases x with
  | tup cs =>
    obtain ⟨vs, rfl, hn, hp⟩ := h.inv_tup
    refine .tup _ vs (by simp [hn]) (fun i y u h1 h2 => ?_)
    rw [List.getElem?_map] at h1
    cases hc : cs[i]? with
    | none => simp [hc] at h1
    | some z => simp only [hc, Option.map_some, Option.some.injEq] at h1; subst h1; exact (hp i z u hc h2).shift2 β tk
  | _ => exact h.shift2 β tk

/-- A function that has a body. -/
def callable (P : Program) (f : FuncId) : Bool :=
  match P.funcs[f]? with
  | some fn => !(fn.name == "runtime.NumGoroutine") && fn.body.isSome
  | none => false

def cleanArgs : List AV → Option (List AV)
  | [] => some []
  | x :: xs => match x.clean, cleanArgs xs with
    | some y, some ys => some (y :: ys)
    | _, _ => none

theorem cleanArgs_ok : ∀ {xs ys : List AV} {vs : List Value}, Pw c xs vs → cleanArgs xs = some ys → Pw0 c.im ys vs
  | [], ys, vs, h, hc => by
    simp only [cleanArgs, Option.some.injEq] at hc; subst hc
    exact ⟨h.1, by simp⟩
  | x :: xs, ys, vs, h, hc => by
    simp only [cleanArgs] at hc
    split at hc
    · rename_i y ys' h1 h2
      simp only [Option.some.injEq] at hc; subst hc
      cases vs with
      | nil => simp [Pw] at h
      | cons v vs =>
        have ih := cleanArgs_ok (vs := vs) ⟨by simpa using h.1, fun i x u e1 e2 => h.2 (i + 1) x u e1 e2⟩ h2
        refine ⟨by simp [ih.1], fun i y' v' e1 e2 => ?_⟩
        cases i with
        | zero => simp only [List.getElem?_cons_zero, Option.some.injEq] at e1 e2; subst e1; subst e2; exact (clean_ok (h.2 0 x v rfl rfl) h1).1
        | succ i => exact ih.2 i y' v' (by simpa using e1) (by simpa using e2)
    · simp at hc

def ACallOp (E : Env) (st : St) (f : AV) (args : List AV) (K : St → AV → Prop) : Prop :=
  match f with
  | .fn g caps => callable E.P g = true ∧ ∃ ys, cleanArgs (args ++ caps) = some ys ∧ ∃ R, ACalls E g ys R ∧ ∀ r tks, R r tks → K { st with tk := st.tk ++ tks } (r.shift st.tk.length)
  | _ => False

/-- One operation. -/
def AOp (E : Env) (o : Oper) (st : St) (K : St → Prop) : Prop :=
  match o.op with
  | .alloc t => AAllocD E.P t o.dst st fun st' x => K (st'.put o.dst x)
  | .box _ x => ABox (st.ev x) st fun st' y => K (st'.put o.dst y)
  | .store t x y => AStore E.P t (st.ev x) (st.ev y) st fun st' => K (st'.put o.dst (.v undef))
  | .buildSlice t n ps => AMkSlice E.P t n (evParts st ps) st fun st' y => K (st'.put o.dst y)
  | .convert s d x =>
    match E.P.underlying d with
    | some (.slice _) => ABytes E.P s d (st.ev x) st fun st' y => K (st'.put o.dst y)
    | _ => ALight E.P st o.op fun y => K (st.put o.dst y)
  | .call c =>
    match c.callee, c.args.toList, c.argTypes.toList with
    | .builtin .append, [x, y], [t, tx] => AAppend E.P t tx (st.ev x) (st.ev y) st fun st' z => K (st'.put o.dst z)
    | .value f, xs, _ => ACallOp E st (st.ev f) (xs.map st.ev) fun st' z => K (st'.put o.dst z)
    | _, _, _ => ALight E.P st o.op fun y => K (st.put o.dst y)
  | _ => ALight E.P st o.op fun y => K (st.put o.dst y)

/-- What the relation hands on. -/
def Hands (w0 : World) (im0 : Im) (K : St → Prop) (a : Act) (w : World) : Prop := ∃ c st, Rel w0 im0 c st a w ∧ K st

theorem wp_value {o : Oper} {v : Value} {w' : World} {K : Act → World → Prop} {Q : Exit → Act → World → Prop} (h : (execOp a.eval o).run E.P w = .ok (.value v) w') (hk : K (a.put o.dst v) w') : o.wp E.P a w K Q := by
  unfold Oper.wp; rw [h]; exact hk
theorem wp_skip' {o : Oper} {w' : World} {K : Act → World → Prop} {Q : Exit → Act → World → Prop} (h : (execOp a.eval o).run E.P w = .ok .skip w') (hk : K (a.put o.dst undef) w') : o.wp E.P a w K Q := by
  unfold Oper.wp; rw [h]; exact hk

theorem light_wp (r : Rel w0 im0 c st a w) {o : Oper} {K : St → Prop} {Q : Exit → Act → World → Prop} (hk : ALight E.P st o.op fun y => K (st.put o.dst y)) : o.wp E.P a w (Hands w0 im0 K) Q := by
  obtain ⟨v, x, h1, h2, h3⟩ := light_sound r hk
  exact wp_value h1 ⟨c, _, r.put o.dst h2, h3⟩

theorem call_wp (h0 : E.ok w0) (hG : GOK E im0) (r : Rel w0 im0 c st a w) {dst : Option Tmp} {f : Operand} {args : Array Operand} {tys : Array TypeId} {ty : TypeId} {pos : String} {after : Array Edge} {guard : Option (Nat × Bool)} {K : St → AV → Prop} {K' : St → Prop} {Q : Exit → Act → World → Prop}
    (hk : ACallOp E st (st.ev f) (args.toList.map st.ev) K) (hK : ∀ st y, K st y → K' (st.put dst y)) : Oper.wp E.P ⟨dst, .call ⟨.value f, args, tys⟩, ty, pos, after, guard⟩ a w (Hands w0 im0 K') Q := by
  unfold ACallOp at hk
  split at hk
  case h_2 => exact hk.elim
  rename_i g caps hf
  obtain ⟨hcl, ys, hys, R, hR, hk⟩ := hk
  have hv := r.ev f
  rw [hf] at hv
  obtain ⟨us, he, hn, hp⟩ := hv.inv_fn
  have hargs : Pw c (args.toList.map st.ev ++ caps) (args.toList.map a.eval ++ us) := by
    refine ⟨by simp [hn], fun i x v h1 h2 => ?_⟩
    rcases getElem?_app _ _ _ _ h1 with ⟨l1, h1⟩ | ⟨l1, h1⟩
    · rw [List.getElem?_append_left (by simpa using l1)] at h2
      rw [List.getElem?_map] at h1 h2
      cases hc : args.toList[i]? with
      | none => simp [hc] at h1
      | some z => simp only [hc, Option.map_some, Option.some.injEq] at h1 h2; subst h1; subst h2; exact r.ev z
    · rw [List.getElem?_append_right (by simpa using l1)] at h2
      have : (args.toList.map a.eval).length = (args.toList.map st.ev).length := by simp
      rw [this] at h2
      exact hp _ _ _ h1 h2
  have hpw := cleanArgs_ok hargs hys
  have hrun : (execOp a.eval ⟨dst, .call ⟨.value f, args, tys⟩, ty, pos, after, guard⟩).run E.P w = .ok (.enter g (args.toList.map a.eval ++ us).toArray) w := by
    unfold callable at hcl
    cases hfn : E.P.funcs[g]? with
    | none => simp [hfn] at hcl
    | some fn =>
      simp only [hfn, Bool.and_eq_true, Bool.not_eq_true'] at hcl
      obtain ⟨hn1, hn2⟩ := hcl
      have hb : fn.body.isNone = false := by cases hbb : fn.body <;> simp_all
      have harr : Array.map a.eval args ++ us.toArray = (args.toList.map a.eval ++ us).toArray := by
        apply Array.ext'
        simp
      have he' : a.eval f = .func (.func g) #[] us.toArray := he
      simp only [execOp, resolve, he', Deferred.ofValue, Sem.run_bind, Sem.run_pure, Result.andThen_ok, invoke, callFunc, run_program, hfn, hn1, Bool.false_eq_true, if_false, hb, Array.empty_append, harr]
  unfold Oper.wp
  rw [hrun]
  simp only [Oper.upon]
  refine (hR w c.im _ (below_ok r.below h0) (hG.mono r.imle) r.imok hpw).mono ?_
  rintro e w' ⟨v, rr, tks, im', rfl, hbel, him, hold, hok, htk, hvr, hRR⟩
  obtain ⟨h1, h2⟩ := r.addToks hbel him hok hold htk
  have h3 := hk rr _ hRR
  refine ⟨_, _, h2.put dst (hvr.shift c.β c.tk), ?_⟩
  rw [r.tklen]
  exact hK _ _ h3

theorem aop_sound (h0 : E.ok w0) (hG : GOK E im0) (r : Rel w0 im0 c st a w) {o : Oper} {K : St → Prop} {Q : Exit → Act → World → Prop} (hk : AOp E o st K) : o.wp E.P a w (Hands w0 im0 K) Q := by
  have val : ∀ {s : Sem Value} {K' : St → AV → Prop}, (∃ u y w' c' st', s.run E.P w = .ok u w' ∧ Rel w0 im0 c' st' a w' ∧ VR c' y u ∧ K' st' y) → (execOp a.eval o = do pure (.value (← s))) →
      (∀ st' y, K' st' y → K (st'.put o.dst y)) → o.wp E.P a w (Hands w0 im0 K) Q := by
    rintro s K' ⟨u, y, w', c', st', h1, h2, h3, h4⟩ he hK
    exact wp_value (by rw [he]; simp [h1]) ⟨c', _, h2.put o.dst h3, hK _ _ h4⟩
  obtain ⟨dst, op, type, pos, after, guard⟩ := o
  unfold AOp at hk
  cases op <;> simp only at hk
  case alloc t => exact val (allocD_ok r hk) rfl (fun _ _ h => h)
  case box t x => exact val (box_ok r (r.ev x) hk) rfl (fun _ _ h => h)
  case store t x y =>
    obtain ⟨w', st', h1, h2, h3⟩ := store_ok r (r.ev x) (r.ev y) hk
    refine wp_skip' (w' := w') ?_ ⟨c, _, h2.put dst (.base (.v undef)), h3⟩
    simp only [execOp, Sem.run_bind, h1, Result.andThen_ok, Sem.run_pure]
  case buildSlice t n ps => exact val (mkSlice_ok r hk) rfl (fun _ _ h => h)
  case convert s d x =>
    split at hk
    · exact val (bytes_ok r (r.ev x) hk) rfl (fun _ _ h => h)
    · exact light_wp r hk
  case call cl =>
    obtain ⟨callee, args, tys⟩ := cl
    simp only at hk
    split at hk
    · rename_i x y t tx hargs htys
      have ha : args = #[x, y] := by apply Array.ext'; simpa using hargs
      have ht : tys = #[t, tx] := by apply Array.ext'; simpa using htys
      subst ha; subst ht
      obtain ⟨v, z, w', c', st', h1, h2, h3, h4⟩ := append_ok (P := E.P) (ty := type) r (r.ev x) (r.ev y) hk
      refine wp_value (w' := w') (v := v) ?_ ⟨c', _, h2.put dst h3, h4⟩
      simp only [execOp, resolve, Sem.run_bind, Sem.run_pure, Result.andThen_ok, invoke, builtin, List.map_toArray, List.map_cons, List.map_nil, h1]
    · exact call_wp h0 hG r hk (fun _ _ h => h)
    · exact light_wp r hk
  all_goals exact light_wp r hk

/-- What a guard's slot holds: a Bool; nothing; it can't be told. -/
def gval : AV → Option (Option Bool)
  | .v (.bool b) => some (some b)
  | .v (.tuple _) => some none
  | _ => none
def AWant (ops : Array Oper) (o : Oper) (st : St) : Option Bool :=
  match o.guard with
  | none => some true
  | some (j, want) =>
    match (ops[j]?).bind (·.dst) with
    | none => some false
    | some d =>
      match gval (st.tmps.getD d .any) with
      | some (some b) => some (b == want)
      | some none => some false
      | none => none

def AList (E : Env) (ops : Array Oper) : List Oper → St → (St → Prop) → Prop
  | [], st, K => K st
  | o :: rest, st, K => ∃ q, AWant ops o st = some q ∧ (q = true → AOp E o st fun st' => AList E ops rest st' K) ∧ (q = false → AList E ops rest (st.put o.dst (.v undef)) K)

theorem want_ok (r : Rel w0 im0 c st a w) {ops : Array Oper} {o : Oper} {q : Bool} (h : AWant ops o st = some q) : Region.wanted o (yielded ops a.tmps) = q := by
  unfold AWant at h
  unfold Region.wanted yielded
  split at h
  · rename_i hg
    simp only [Option.some.injEq] at h
    simp [hg, h]
  · rename_i j want hg
    simp only [hg]
    split at h
    · rename_i hd
      simp only [Option.some.injEq] at h
      simp [hd, ← h]
    · rename_i d hd
      simp only [hd, Option.bind_some]
      by_cases hlt : d < st.tmps.length
      · have hlt2 : d < a.tmps.size := by rw [r.size]; exact hlt
        have hv := r.tmps d st.tmps[d] a.tmps[d] (by simp [hlt]) (by simp [hlt2])
        have hx : st.tmps.getD d .any = st.tmps[d] := by simp [List.getD_eq_getElem?_getD, hlt]
        have hy : a.tmps[d]? = some a.tmps[d] := by simp [hlt2]
        rw [hx] at h
        rw [hy]
        generalize st.tmps[d] = x at *
        generalize a.tmps[d] = v at *
        unfold gval at h
        split at h
        · rename_i b hx2
          split at hx2
          · rename_i b2
            simp only [Option.some.injEq] at hx2 h
            subst hx2
            cases hv.inv_v
            rw [← h]
            cases b2 <;> cases want <;> rfl
          · simp at hx2
          · simp at hx2
        · rename_i hx2
          split at hx2
          · simp at hx2
          · cases hv.inv_v
            simp only [Option.some.injEq] at h
            rw [← h]
            cases want <;> rfl
          · simp at hx2
        · simp at h
      · have hx : st.tmps.getD d .any = .any := by simp [List.getD_eq_getElem?_getD, List.getElem?_eq_none (Nat.le_of_not_lt hlt)]
        rw [hx] at h
        simp [gval] at h

theorem alist_sound (h0 : E.ok w0) (hG : GOK E im0) {ops : Array Oper} {K : St → Prop} {Q : Exit → Act → World → Prop} (hQ : ∀ a w, Hands w0 im0 K a w → Q .normal a w) : ∀ (l : List Oper) {c : Ctx} {st : St} {a : Act} {w : World}, Rel w0 im0 c st a w → AList E ops l st K → wpList E.P ops Q l a w
  | [], c, st, a, w, r, h => hQ _ _ ⟨c, st, r, h⟩
  | o :: rest, c, st, a, w, r, h => by
    obtain ⟨q, hq, h1, h2⟩ := h
    have hw := want_ok r hq
    refine wpList_step (fun K' hK' => ?_)
    cases q with
    | true =>
      rw [if_pos hw]
      refine Oper.wp_mono (fun a' w' hh => ?_) (aop_sound (Q := Q) h0 hG r (h1 rfl))
      obtain ⟨c', st', r', h'⟩ := hh
      exact hK' _ _ (alist_sound h0 hG hQ rest r' h')
    | false =>
      rw [if_neg (by rw [hw]; exact Bool.false_ne_true)]
      exact hK' _ _ (alist_sound h0 hG hQ rest (r.put o.dst (.base (.v undef))) (h2 rfl))
end
end Go.Abs
