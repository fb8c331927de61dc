/- A function's contract out of its body. -/
import Derived.Test.YtgiomlgkccjhfaaDoorAbsK
namespace Go.Abs
open Go Go.RowKit
set_option linter.unusedVariables false
set_option linter.unusedSimpArgs false

section
variable {P : Program} {w0 : World} {im0 : Im} {c : Ctx} {st : St} {a : Act} {w : World}

theorem loadVar_of {t : TypeId} {v u : Value} (h : (Instr.loadAt t v).run P w = .ok u w) : (do loadVar t (← asAddr v) : Sem Value).run P w = .ok u w := by
  cases v <;> first
    | (simp [Instr.loadAt, Instr.sureAddr] at h; done)
    | skip
  case pointer a =>
    cases a with
    | none => simp [Instr.loadAt, Instr.sureAddr] at h
    | some a => simpa [Instr.loadAt, Instr.sureAddr, asAddr] using h

theorem res_ok (r : Rel w0 im0 c st a w) : ∀ {rs : List ResultVar} {k : List AV → Prop}, ARes P st rs k →
    ∃ l vs, (rs.mapM (fun | .tmp t => pure (a.tmps.getD t undef) | .cell x t => do loadVar t (← asAddr (a.tmps.getD x undef)) : ResultVar → Sem Value)).run P w = .ok vs w ∧ Pw c l vs ∧ k l
  | [], k, h => ⟨[], [], by simp, ⟨rfl, by simp⟩, h⟩
  | .tmp t :: rs, k, h => by
    have h' : ARes P st rs (fun l => k (st.ev (.tmp t) :: l)) := h
    obtain ⟨l, vs, h1, h2, h3⟩ := res_ok r h'
    refine ⟨st.ev (.tmp t) :: l, a.tmps.getD t undef :: vs, ?_, ⟨by simp [h2.1], fun i x u e1 e2 => ?_⟩, h3⟩
    · simp only [List.mapM_cons, Sem.run_bind, Sem.run_pure, Result.andThen_ok, h1]
    · cases i with
      | zero => simp only [List.getElem?_cons_zero, Option.some.injEq] at e1 e2; subst e1; subst e2; exact r.ev (.tmp t)
      | succ i => exact h2.2 i x u (by simpa using e1) (by simpa using e2)
  | .cell x t :: rs, k, h => by
    obtain ⟨u, y, hu, hv, h'⟩ := load_ok r (r.ev (.tmp x)) h
    obtain ⟨l, vs, h1, h2, h3⟩ := res_ok r h'
    have hl := loadVar_of hu
    refine ⟨y :: l, u :: vs, ?_, ⟨by simp [h2.1], fun i z q e1 e2 => ?_⟩, h3⟩
    · simp only [Act.eval] at hl
      rw [List.mapM_cons, Sem.run_bind]
      simp only [hl, Result.andThen_ok, Sem.run_bind, h1, Sem.run_pure]
    · cases i with
      | zero => simp only [List.getElem?_cons_zero, Option.some.injEq] at e1 e2; subst e1; subst e2; exact hv
      | succ i => exact h2.2 i z q (by simpa using e1) (by simpa using e2)

theorem results_run {fn : Func} {tmps : Array Value} {vs : List Value}
    (h : (fn.results.toList.mapM (fun | .tmp t => pure (tmps.getD t undef) | .cell x t => do loadVar t (← asAddr (tmps.getD x undef)) : ResultVar → Sem Value)).run P w = .ok vs w) :
    (results fn tmps).run P w = .ok (if vs.length = 1 then vs.headD undef else .tuple vs.toArray) w := by
  have hm : (fn.results.mapM (fun | .tmp t => pure (tmps.getD t undef) | .cell x t => do loadVar t (← asAddr (tmps.getD x undef)) : ResultVar → Sem Value)).run P w = .ok vs.toArray w := by
    rw [Array.mapM_eq_mapM_toList]
    simp only [Sem.run_map, h, Result.andThen_ok]
  have he : results fn tmps = (do
      let vs ← fn.results.mapM (fun | .tmp t => pure (tmps.getD t undef) | .cell x t => do loadVar t (← asAddr (tmps.getD x undef)) : ResultVar → Sem Value)
      pure (if h : vs.size = 1 then vs[0] else .tuple vs)) := rfl
  rw [he]
  simp only [Sem.run_bind, hm, Result.andThen_ok, Sem.run_pure]
  congr 1
  cases vs with
  | nil => simp
  | cons v vs => cases vs with
    | nil => simp
    | cons => simp

/-- The contract out of the body. -/
theorem ACalls.of_awp {E : Env} {f : FuncId} {fn : Func} {body : Code} {args : List AV} {R : AV → List Nat → Prop} (hf : E.P.funcs[f]? = some fn) (hb : fn.body = some body) {n : Nat} (hn : fn.ntmps = n) {rs : List ResultVar} (hr : fn.results.toList = rs)
    (h : AWP E body (APost E.P rs R) ⟨args ++ List.replicate (n - args.length) (.v undef), [], [], E.gl, none⟩) : ACalls E f args R := by
  intro w im vs hE hG hok hpw
  subst hn; subst hr
  have hsz : vs.toArray.size = vs.length := by simp
  refine calls_of_wp hf hb ?_
  have hrel : Rel w im ⟨[], [], im⟩ ⟨args ++ List.replicate (fn.ntmps - args.length) (.v undef), [], [], E.gl, none⟩ { tmps := vs.toArray ++ Array.replicate (fn.ntmps - vs.toArray.size) undef, defers := [] } w := by
    refine ⟨rfl, by simp [hpw.1], ?_, Below.refl _ _, .refl _, fun _ _ _ => rfl, hok, rfl, by simp, rfl, by simp, by simp, ⟨by simp, by simp, by simp⟩, fun g cs h => hG g cs h, fun l d i h => by simp at h⟩
    intro i x v h1 h2
    rcases getElem?_app _ _ _ _ h1 with ⟨l1, h1⟩ | ⟨l1, h1⟩
    · have : i < vs.length := by rw [hpw.1]; exact l1
      rw [Array.getElem?_append_left (by simpa using this)] at h2
      exact .base (hpw.2 i x v h1 (by simpa using h2))
    · have hlen : vs.length = args.length := hpw.1
      rw [Array.getElem?_append_right (by simp; omega)] at h2
      have e1 : x = .v undef := by
        have := List.mem_of_getElem? h1
        simp only [List.mem_replicate] at this
        exact this.2
      have e2 : v = undef := by
        have := Array.mem_of_getElem? h2
        simp only [Array.mem_replicate] at this
        exact this.2
      subst e1; subst e2
      exact .base (.v _)
  refine wp_mono (h w im _ _ w hE hG hrel) fun e a' w' hh => ?_
  obtain ⟨c', st', r', q⟩ := hh
  have fin : AEnd E.P fn.results.toList R st' → a'.defers = [] ∧ ∃ v, (results fn a'.tmps).run E.P w' = .ok v w' ∧ ∃ v' r tks im', Ending.returned v = .returned v' ∧ Below w.heap.size w w' ∧ im.le im' ∧ (∀ (b o : Nat), b < w.heap.size → im' b o = im b o) ∧
      (∀ (b o : Nat) (x : Value), im' b o = some x → w'.cell? ⟨b, o, none⟩ = some x) ∧ ToksOK im' w.heap.size w' tks ∧ VR ⟨[], tks, im'⟩ r v' ∧ R r (tks.map (·.tail)) := by
    intro q
    obtain ⟨l, us, h1, h2, sel, y, h3, h4, h5⟩ := res_ok r' q
    refine ⟨r'.defers, _, results_run h1, _, y, selTk c' sel, c'.im, rfl, r'.below, r'.imle, r'.imold, r'.imok, selToks r' h3, ?_, ?_⟩
    · refine outT_ok r' h3 (x := tupOf l) ?_ h4
      cases l with
      | nil =>
        have : us = [] := List.eq_nil_of_length_eq_zero h2.1
        subst this
        exact .tup [] [] rfl (by simp)
      | cons x l => cases l with
        | nil =>
          cases us with
          | nil => have := h2.1; simp at this
          | cons u us =>
            have : us = [] := List.eq_nil_of_length_eq_zero (by have := h2.1; simpa using this)
            subst this
            exact h2.2 0 x u rfl rfl
        | cons z l =>
          have hl2 : us.length = (x :: z :: l).length := h2.1
          rw [if_neg (by rw [hl2]; simp)]
          exact .tup _ us h2.1 h2.2
    · rw [selLens_eq r' h3]; exact h5
  cases e <;> simp only [APost] at q <;> first | exact q.elim | skip
  case normal => exact fin q
  case ret => exact fin q
end
end Go.Abs
