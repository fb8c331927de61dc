/- Texts of one chain, put together (Lm, Shelf, Q21, Le, Sr, Q2, Q3, Q4, Q19, Q22, Q5, Q6, Q29, G1). -/
import Derived.Test.YtajeeghgiilhiaaGreatKqE
import Derived.Laws.Externs
import Derived.Shelf.Bits.Mul64
import Derived.Shelf.SlIter.Sorted
import Derived.Shelf.SortM.Plain
import Derived.Shelf.SortM.SortNone
import Derived.Ground.GgzProg
import Derived.Ground.SlgmProg
import Derived.Test.YtajeeghgiilhiaaGreatProg
import Derived.Test.YtajeeghgiilhiaaGreatKqD
import Derived.RangeFuncBox
import Derived.RangeFuncLeaves
import Derived.Shelf.Abstract
import Derived.WalkKit
import Derived.OwnWalkIn
import Derived.TacticsInMore
import Derived.LoopNIn
import Derived.LoopIn
import Derived.Test.YtajeeghgiilhiaaGreatKqH
section
/- Several texts of one chain, put together (Lf, Lg, Lj, Lk, Lh, Li). -/
/- A literal without elements, as a row of one's own. -/
set_option linter.unusedVariables false
set_option linter.unusedSimpArgs false
namespace Go.Abs
open Go Go.RowKit
end Go.Abs

/- Plans where what is appended goes to rows by content: what looks into memory may change places with an append. -/
set_option linter.unusedVariables false
set_option linter.unusedSimpArgs false
namespace Go.Abs
open Go Go.RowKit
def notMu : AV → Bool
  | .mu _ _ _ _ _ => false
  | _ => true
/-- What is appended to is no row of one's own. -/
def tokOp (st : St) : Option Oper → Prop
  | some o => match o.op with
    | .call cl => match cl.callee, cl.args.toList with
      | .builtin .append, x :: _ => notMu (st.ev x) = true
      | _, _ => True
    | _ => True
  | none => True
def setOp : Op → Bool
  | .store .. => true
  | _ => false
def AStepT (E : Env) (ops : Array Oper) (i : Nat) (C : St → Prop) (st : St) : Prop := tokOp st ops[i]? ∧ AStep E ops i C st
def APlanT (E : Env) (ops : Array Oper) (K : St → Prop) : Plan → St → Prop
  | .done, st => K st
  | .take i p, st => AStepT E ops i (APlanT E ops K p) st
  | .fork p, st => APlanT E ops K p st
  | .alt i p rest, st => AStepT E ops i (APlanT E ops K p) st ∧ APlanT E ops K rest st
  | .ends, _ => True
def AAnyT (E : Env) (ops : Array Oper) (K : St → Prop) : Nat → Array Bool → St → Prop
  | 0, L, st => Region.ready .any ops L = [] ∧ K st
  | n + 1, L, st => (Region.ready .any ops L = [] → K st) ∧ ∀ i ∈ Region.ready .any ops L, AStepT E ops i (AAnyT E ops K n (L.setIfInBounds i true)) st
section
variable {E : Env} {ops : Array Oper} {K : St → Prop} {anc : List (List Nat)}
theorem AStepT.mono {i : Nat} {C D : St → Prop} {st : St} (hk : AStepT E ops i C st) (h : ∀ s, C s → D s) : AStepT E ops i D st := ⟨hk.1, hk.2.mono h⟩
theorem AAnyT.drop : ∀ {n : Nat} {L : Array Bool} {st : St}, AAnyT E ops K n L st → AAny E ops K n L st
  | 0, _, _, h => h
  | _ + 1, _, _, h => ⟨h.1, fun i hi => (h.2 i hi).2.mono fun _ => AAnyT.drop⟩
theorem own_keep {o : Oper} {s : St} {C : St → Prop} (ht : tokOp s (some o)) (hset : setOp o.op = false) (hk : AOp E o s C) : AOp E o s (fun s' => C s' ∧ OwnLe s s') := by
  cases hso : storeOp o.op with
  | false =>
    refine aop_congr (fun _ _ => rfl) rfl rfl rfl rfl hk (fun s' t' hc ha => ?_)
    obtain ⟨z, h1, h2⟩ := ha.at'
    have : t' = s' := by rw [h2, ← h1]
    rw [this]; exact ⟨hc, ha.ext hso⟩
  | true =>
    obtain ⟨dst, op, type, pos, after, guard⟩ := o
    cases op <;> simp only [storeOp, setOp] at hso hset <;> try (simp at hso; done)
    case store => simp at hset
    case call cl =>
      obtain ⟨callee, args, tys⟩ := cl
      simp only at hso
      cases callee with
      | value f => simp at hso
      | invoke => simp at hso
      | builtin b =>
        cases b <;> simp only at hso <;> try (simp at hso; done)
        unfold AOp at hk ⊢
        simp only at hk ⊢
        split at hk
        · rename_i x y t tx hargs htys
          rename_i hcal
          simp only [tokOp, hargs] at ht
          obtain ⟨g1, e, k, n, xs, g2, g3, hk⟩ := hk
          refine ⟨g1, e, k, n, xs, g2, g3, ?_⟩
          split at hk
          · obtain ⟨g4, g5, g6, g7, hk⟩ := hk
            exact ⟨g4, g5, g6, g7, hk, fun id es he => by rw [put_own.1]; exact he⟩
          · obtain ⟨g6, g7, hk⟩ := hk
            exact ⟨g6, g7, hk, fun id es he => by rw [put_own.1]; exact he⟩
          · rename_i hx
            rw [hx] at ht; simp [notMu] at ht
          · exact hk.elim
        · rename_i hh; simp at hh
        · exact (light_mono (fun y hy => ⟨hy, fun id es he => by rw [put_own.1]; exact he⟩) hk)
@[go_sem] theorem apT_done {st : St} : APlanT E ops K .done st = K st := rfl
@[go_sem] theorem apT_take {st : St} {i : Nat} {p : Plan} : APlanT E ops K (.take i p) st = (tokOp st ops[i]? ∧ AList E ops (ops[i]?).toList st (APlanT E ops K p)) := by
  show (_ ∧ AStep E ops i (APlanT E ops K p) st) = _
  rw [astep_list]
@[go_sem] theorem apT_fork {st : St} {p : Plan} : APlanT E ops K (.fork p) st = APlanT E ops K p st := rfl
@[go_sem] theorem apT_alt {st : St} {i : Nat} {p r : Plan} : APlanT E ops K (.alt i p r) st = ((tokOp st ops[i]? ∧ AList E ops (ops[i]?).toList st (APlanT E ops K p)) ∧ APlanT E ops K r st) := by
  show ((_ ∧ AStep E ops i (APlanT E ops K p) st) ∧ _) = _
  rw [astep_list]
@[go_sem] theorem apT_ends {st : St} : APlanT E ops K .ends st = True := rfl
end
attribute [go_sem] tokOp notMu
end Go.Abs

/- Plans where some literals without elements, and what is appended to them, are rows of one's own. -/
set_option linter.unusedVariables false
set_option linter.unusedSimpArgs false
namespace Go.Abs
open Go Go.RowKit
/-- A literal without elements, an append to it, as a row of one's own. -/
def MuStep (E : Env) (o : Oper) (C : St → Prop) (st : St) : Prop := o.guard = none ∧
  ((∃ t e k n, o.op = .buildSlice t 0 #[] ∧ appInfo E.P t = some (e, k, n) ∧ C (St.put { st with own := st.own ++ [some []] } o.dst (.mu st.own.length k 0 0 0))) ∨
   ∃ t tx x y e k n id xs, o.op = .call ⟨.builtin .append, #[x, y], #[t, tx]⟩ ∧ srcTy E.P tx = true ∧ appInfo E.P t = some (e, k, n) ∧ st.ev x = .mu id k 0 0 0 ∧ ASrc (st.ev y) k = some xs ∧ st.own[id]? = some (some []) ∧ xs.length ≤ 4611686018427387904 ∧ xs.length * n ≤ 140737488355328 ∧
     ∀ m, C (St.put { st with own := st.own.set id none ++ [some (xs ++ spare k m)] } o.dst (.mu st.own.length k 0 xs.length (xs.length + m))))
def AStepM (E : Env) (ops : Array Oper) (ms : List Nat) (i : Nat) (C : St → Prop) (st : St) : Prop := if ms.contains i = true then ∃ o, ops[i]? = some o ∧ MuStep E o C st else tokOp st ops[i]? ∧ AStep E ops i C st
def APlanM (E : Env) (ops : Array Oper) (ms : List Nat) (K : St → Prop) : Plan → St → Prop
  | .done, st => K st
  | .take i p, st => AStepM E ops ms i (APlanM E ops ms K p) st
  | .fork p, st => APlanM E ops ms K p st
  | .alt i p rest, st => AStepM E ops ms i (APlanM E ops ms K p) st ∧ APlanM E ops ms K rest st
  | .ends, _ => True
section
variable {E : Env} {ops : Array Oper} {ms : List Nat} {K : St → Prop} {anc : List (List Nat)}
theorem MuStep.mono {o : Oper} {C D : St → Prop} {st : St} (h : MuStep E o C st) (hk : ∀ s, C s → D s) : MuStep E o D st := by
  obtain ⟨hg, ⟨t, e, k, n, ho, ha, hc⟩ | ⟨t, tx, x, y, e, k, n, id, xs, ho, h1, h2, h3, h4, h5, h6, h7, hc⟩⟩ := h
  · exact ⟨hg, .inl ⟨t, e, k, n, ho, ha, hk _ hc⟩⟩
  · exact ⟨hg, .inr ⟨t, tx, x, y, e, k, n, id, xs, ho, h1, h2, h3, h4, h5, h6, h7, fun m => hk _ (hc m)⟩⟩
theorem AStepM.mono {i : Nat} {C D : St → Prop} {st : St} (hk : AStepM E ops ms i C st) (h : ∀ s, C s → D s) : AStepM E ops ms i D st := by
  unfold AStepM at *
  split
  · rename_i hi; rw [if_pos hi] at hk; obtain ⟨o, h1, h2⟩ := hk; exact ⟨o, h1, h2.mono h⟩
  · rename_i hi; rw [if_neg hi] at hk; exact ⟨hk.1, hk.2.mono h⟩
@[go_sem] theorem apM_done {st : St} : APlanM E ops ms K .done st = K st := rfl
def AMuO (E : Env) (o : Option Oper) (C : St → Prop) (st : St) : Prop := match o with
  | some o => MuStep E o C st
  | none => False
theorem astepM_eq {i : Nat} {C : St → Prop} {st : St} : AStepM E ops ms i C st = if ms.contains i = true then AMuO E (ops[i]?) C st else (tokOp st ops[i]? ∧ AList E ops (ops[i]?).toList st C) := by
  unfold AStepM
  split
  · cases ops[i]? with
    | none => simp [AMuO]
    | some o => simp [AMuO]
  · rw [astep_list]
@[go_sem] theorem apM_take {st : St} {i : Nat} {p : Plan} : APlanM E ops ms K (.take i p) st = if ms.contains i = true then AMuO E (ops[i]?) (APlanM E ops ms K p) st else (tokOp st ops[i]? ∧ AList E ops (ops[i]?).toList st (APlanM E ops ms K p)) := astepM_eq
@[go_sem] theorem apM_fork {st : St} {p : Plan} : APlanM E ops ms K (.fork p) st = APlanM E ops ms K p st := rfl
@[go_sem] theorem apM_alt {st : St} {i : Nat} {p r : Plan} : APlanM E ops ms K (.alt i p r) st = ((if ms.contains i = true then AMuO E (ops[i]?) (APlanM E ops ms K p) st else (tokOp st ops[i]? ∧ AList E ops (ops[i]?).toList st (APlanM E ops ms K p))) ∧ APlanM E ops ms K r st) := by
  show (AStepM E ops ms i (APlanM E ops ms K p) st ∧ _) = _
  rw [astepM_eq]
@[go_sem] theorem apM_ends {st : St} : APlanM E ops ms K .ends st = True := rfl
def AMuTo (x : AV) (k n : Nat) (src : Option (List AV)) (st : St) (C : St → AV → Prop) : Prop := match x with
  | .mu id q off len cap => q = k ∧ off = 0 ∧ len = 0 ∧ cap = 0 ∧ AGet src fun xs => xs.length ≤ 4611686018427387904 ∧ xs.length * n ≤ 140737488355328 ∧ AGet2 st.own[id]? fun l => l = [] ∧
      ∀ m, C { st with own := st.own.set id none ++ [some (xs ++ spare k m)] } (.mu st.own.length k 0 xs.length (xs.length + m))
  | _ => False
@[go_sem] theorem mu_slice {d : Option Tmp} {t ty : TypeId} {pos : String} {after : Array Edge} {C : St → Prop} {st : St} : AMuO E (some ⟨d, .buildSlice t 0 #[], ty, pos, after, none⟩) C st = AGet (appInfo E.P t) fun q => C (St.put { st with own := st.own ++ [some []] } d (.mu st.own.length q.2.1 0 0 0)) := by
  refine propext ⟨?_, ?_⟩
  · rintro ⟨_, ⟨t', e, k, n, ho, ha, hc⟩ | ⟨_, _, _, _, _, _, _, _, _, ho, _⟩⟩
    · cases ho; exact ⟨_, ha, hc⟩
    · cases ho
  · rintro ⟨⟨e, k, n⟩, ha, hc⟩
    exact ⟨rfl, .inl ⟨t, e, k, n, rfl, ha, hc⟩⟩
@[go_sem] theorem mu_app {d : Option Tmp} {t tx ty : TypeId} {x y : Operand} {pos : String} {after : Array Edge} {C : St → Prop} {st : St} : AMuO E (some ⟨d, .call ⟨.builtin .append, #[x, y], #[t, tx]⟩, ty, pos, after, none⟩) C st =
    (srcTy E.P tx = true ∧ AGet (appInfo E.P t) fun q => AMuTo (st.ev x) q.2.1 q.2.2 (ASrc (st.ev y) q.2.1) st fun st' z => C (st'.put d z)) := by
  refine propext ⟨?_, ?_⟩
  · rintro ⟨_, ⟨_, _, _, _, ho, _⟩ | ⟨t', tx', x', y', e, k, n, id, xs, ho, h1, h2, h3, h4, h5, h6, h7, hc⟩⟩
    · cases ho
    · cases ho
      refine ⟨h1, _, h2, ?_⟩
      rw [h3]
      exact ⟨rfl, rfl, rfl, rfl, _, h4, h6, h7, _, h5, rfl, hc⟩
  · rintro ⟨h1, ⟨e, k, n⟩, h2, h3⟩
    unfold AMuTo at h3
    split at h3
    · rename_i id q off len cap hx
      obtain ⟨rfl, rfl, rfl, rfl, xs, h4, h6, h7, l, h5, rfl, hc⟩ := h3
      exact ⟨rfl, .inr ⟨t, tx, x, y, e, _, n, id, xs, rfl, h1, h2, hx, h4, h5, h6, h7, hc⟩⟩
    · exact h3.elim
end
attribute [go_sem] AMuTo
end Go.Abs

/- A state told behind a piece of code: the rest is walked once, whatever the piece forks into. -/
set_option linter.unusedVariables false
set_option linter.unusedSimpArgs false
namespace Go.Abs
open Go Go.RowKit
end Go.Abs

/- A call of a function that the machine does itself. -/
set_option linter.unusedVariables false
set_option linter.unusedSimpArgs false
namespace Go.Abs
open Go Go.RowKit
theorem AWPL.native {E : Env} {Q : Exit → St → Prop} {st : St} {ops : Array Oper} {l : List Oper} {dst : Option Tmp} {ty : TypeId} {pos : String} {after : Array Edge} {g : FuncId} {args : Array Operand} {tys : Array TypeId} (vs : List Value) (u : Value) (y : AV)
    (hev : args.toList.map st.ev = vs.map AV.v) (hrun : ∀ w, (callFunc g vs.toArray).run E.P w = .ok (.value u) w) (hy : ∀ c, VR c y u)
    (h : AWPL E ops l Q (st.put dst y)) : AWPL E ops (⟨dst, .call ⟨.value (.func g), args, tys⟩, ty, pos, after, none⟩ :: l) Q st := by
  intro w0 im0 cx a w h0 hG r
  refine wpList_step (fun K' hK' => ?_)
  have hw : Region.wanted ⟨dst, .call ⟨.value (.func g), args, tys⟩, ty, pos, after, none⟩ (yielded ops a.tmps) = true := rfl
  rw [if_pos hw]
  have hargs : Array.map a.eval args = vs.toArray := by
    apply Array.ext'
    rw [Array.toList_map]
    have hl : args.toList.length = vs.length := by have := congrArg List.length hev; simpa using this
    apply List.ext_getElem?
    intro i
    rw [List.getElem?_map]
    cases hi : args.toList[i]? with
    | none =>
      have : args.toList.length ≤ i := List.getElem?_eq_none_iff.1 hi
      rw [Option.map_none]; symm; exact List.getElem?_eq_none_iff.2 (by show vs.length ≤ i; omega)
    | some x =>
      have h1 := congrArg (fun l => l[i]?) hev
      simp only [List.getElem?_map, hi, Option.map_some] at h1
      cases hv : vs[i]? with
      | none => rw [hv] at h1; simp at h1
      | some v =>
        rw [hv] at h1
        simp only [Option.map_some, Option.some.injEq] at h1
        have h2 := r.ev x
        rw [h1] at h2
        rw [Option.map_some, h2.inv_v, ← hv]
  refine wp_value (w' := w) (v := u) ?_ (hK' _ _ (h w0 im0 _ _ _ h0 hG (r.put dst (hy _))))
  have he' : a.eval (.func g) = .func (.func g) #[] #[] := rfl
  simp only [execOp, resolve, he', Deferred.ofValue, Sem.run_bind, Sem.run_pure, Result.andThen_ok, invoke, Array.empty_append, Array.append_empty, hargs, hrun]
end Go.Abs

/- Clearing the end of a row of one's own. -/
set_option linter.unusedVariables false
set_option linter.unusedSimpArgs false
namespace Go.Abs
open Go Go.RowKit
theorem zeroCells_mem {z : Array Value} {n : Nat} (h : z.toList.all (·.oneCell') = true) : ∀ u ∈ (Builtin.zeroCells z n).toList, u.oneCell' = true := by
  intro u hu
  obtain ⟨i, hi, rfl⟩ := List.mem_iff_getElem.1 hu
  have hi2 : i < n * z.size := by simpa [Builtin.zeroCells] using hi
  have hz : 0 < z.size := by
    rcases Nat.eq_zero_or_pos z.size with h0 | h0
    · rw [h0] at hi2; simp at hi2
    · exact h0
  have hlt := Nat.mod_lt i hz
  simp only [Builtin.zeroCells, Array.getElem_toList, Array.getElem_map, Array.getElem_range]
  rw [getElem!_pos z _ hlt]
  exact List.all_eq_true.1 h _ (by simp)
theorem AWPL.clearMu {E : Env} {Q : Exit → St → Prop} {st : St} {ops : Array Oper} {l : List Oper} {t ty : TypeId} {x : Operand} {pos : String} {after : Array Edge} {e : TypeId} {k n id len cap : Nat} {A B : List AV}
    (hai : appInfo E.P t = some (e, k, n)) (hone : (((E.P.info? e).bind (·.zero)).map fun zv => zv.cells.toList.all (·.oneCell')) = some true)
    (hs : st.ev x = .mu id k A.length (len + 1) cap) (ho : st.own[id]? = some (some (A ++ B))) (hlen : len + 1 ≤ B.length)
    (h : AWPL E ops l Q { st with own := st.own.set id (some (A ++ spare k B.length)) }) : AWPL E ops (⟨none, .call ⟨.builtin .clear, #[x], #[t]⟩, ty, pos, after, none⟩ :: l) Q st := by
  intro w0 im0 cx a w h0 hG r
  refine wpList_step (fun K' hK' => ?_)
  have hw : Region.wanted ⟨none, .call ⟨.builtin .clear, #[x], #[t]⟩, ty, pos, after, none⟩ (yielded ops a.tmps) = true := rfl
  rw [if_pos hw]
  obtain ⟨hu, hss, hk0, i, zv, hi, hz, hsize, hbytes, hzs⟩ := appInfo_ok hai
  have hv := r.ev x
  rw [hs] at hv
  rcases hv.inv_mu with ⟨g, hb, hcap, hve⟩ | ⟨hz1, _, _⟩
  rotate_left
  · omega
  have hown := r.own id g k _ hb ho
  obtain ⟨cs, ty', lo, hi', hblk, hfr, hsz, hlv, hcell⟩ := hown.blk
  have hoc : OCells cx k (A ++ B) cs.toList := ⟨hlv, fun i e j x he hx => by obtain ⟨u, h1, h2⟩ := hcell i e j x he hx; exact ⟨u, by simpa using h1, h2⟩⟩
  have hoc1 := hoc.take
  rw [List.length_append] at hsz
  have hesz : A.length * k ≤ cs.size := by rw [Nat.add_mul] at hsz; omega
  have hol : (cs.toList.take (A.length * k)).length = A.length * k := by have hq : cs.toList.length = cs.size := Array.length_toList; rw [List.length_take, hq]; omega
  have hfro : ∀ o, o < cs.toList.length → ¬ (lo ≤ o ∧ o < hi') := fun o h1 h2 => by
    have h1 : o < cs.size := by simpa using h1
    rcases hfr with h | h <;> omega
  have hcs : cs = cs.toList.toArray := by simp
  have hz1 : zv.cells.toList.all (·.oneCell') = true := by
    rw [hi] at hone; simp only [Option.bind_some, hz, Option.map_some, Option.some.injEq] at hone; exact hone
  have hnl : (Builtin.zeroCells zv.cells (len + 1)).toList.length = (len + 1) * k := by rw [Array.length_toList, zeroCells_size, hzs]
  have hmul : (len + 1) * k ≤ B.length * k := Nat.mul_le_mul_right _ hlen
  have hfit2 : A.length * k + 0 + (Builtin.zeroCells zv.cells (len + 1)).toList.length ≤ cs.toList.length := by
    have hq : cs.toList.length = cs.size := Array.length_toList
    rw [hnl, hq, Nat.add_zero]; rw [Nat.add_mul] at hsz; omega
  have hst := run_storePut (P := E.P) g (A.length * k) ty' lo hi' (Builtin.zeroCells zv.cells (len + 1)).toList 0 cs.toList w (by rw [← hcs]; exact hblk) hfro hfit2 (zeroCells_mem hz1)
  rw [Nat.add_zero] at hst
  have hrun : (Builtin.clear_ #[t] ty #[a.eval x]).run E.P w = .ok (.tuple #[]) (w.setRow g (putV cs.toList (A.length * k) (Builtin.zeroCells zv.cells (len + 1)).toList).toArray) := by
    rw [hve]
    have hzr : (zeroValue e).run E.P w = .ok zv w := by simp [zeroValue, typeInfo, hi, hz]
    unfold Builtin.clear_
    simp only [List.getElem?_toArray, List.getElem?_cons_zero, Sem.run_bind, underlying_run hu, Result.andThen_ok, hzr]
    (try simp only [add_none, Nat.zero_add] at hst)
    simp [hst]
  have hcs'len : (putV cs.toList (A.length * k) (Builtin.zeroCells zv.cells (len + 1)).toList).length = cs.size := by rw [putV_length]; simp
  have hOC : OCells cx k (A ++ spare k B.length) (putV cs.toList (A.length * k) (Builtin.zeroCells zv.cells (len + 1)).toList) := by
    have e1 : putV cs.toList (A.length * k) (Builtin.zeroCells zv.cells (len + 1)).toList = cs.toList.take (A.length * k) ++ (putV cs.toList (A.length * k) (Builtin.zeroCells zv.cells (len + 1)).toList).drop (A.length * k) := by
      apply List.ext_getElem?
      intro p
      by_cases hp : p < A.length * k
      · rw [List.getElem?_append_left (by rw [hol]; exact hp), putV_get _ _ _ _ (by simpa using hfit2), if_neg (by omega), List.getElem?_take, if_pos hp]
      · rw [List.getElem?_append_right (by rw [hol]; omega), hol, List.getElem?_drop]; congr 1; omega
    rw [e1]
    exact hoc1.append hol (OCells.spare (by rw [List.length_drop, hcs'len]; rw [Nat.add_mul] at hsz; omega))
  have hset := r.setOwn (w' := w.setRow g (putV cs.toList (A.length * k) (Builtin.zeroCells zv.cells (len + 1)).toList).toArray) (es' := A ++ spare k B.length) hb ho (fun b hne => setRow_other w g b _ hne) (below_setRow r.below hown.new _)
    ⟨(putV cs.toList (A.length * k) (Builtin.zeroCells zv.cells (len + 1)).toList).toArray, ty', lo, hi', setRow_heap w g cs _ ty' (lo, hi') hblk, by
      rcases hfr with h | h
      · exact .inl h
      · exact .inr (by simpa [putV_length] using h), by
      simp only [List.size_toArray, hcs'len, List.length_append, spare_len]; exact hsz, hOC.1, fun i e j x he hx => by
      obtain ⟨u, h1, h2⟩ := hOC.2 i e j x he hx
      exact ⟨u, by simpa using h1, h2⟩⟩
  refine wp_value (w' := _) (v := .tuple #[]) ?_ (hK' _ _ (h w0 im0 _ _ _ h0 hG (hset.put none (.base (.v _)))))
  simp only [execOp, resolve, Sem.run_bind, Sem.run_pure, Result.andThen_ok, invoke, builtin, List.map_toArray, List.map_cons, List.map_nil, hrun]
/-- The end of a row of one's own. -/
theorem AWPL.sliceMu {E : Env} {Q : Exit → St → Prop} {st : St} {ops : Array Oper} {rest : List Oper} {dst : Option Tmp} {t ty : TypeId} {x lo : Operand} {pos : String} {after : Array Edge} {e : TypeId} {k id off len cap l : Nat}
    (hu : E.P.underlying t = some (.slice e)) (hsz : tsz E.P e = some k) (hs : st.ev x = .mu id k off len cap) (hl : st.ev lo = i64 (l : Int)) (h1 : l ≤ len) (h2 : l < cap) (h0 : 0 < len)
    (h : AWPL E ops rest Q (st.put dst (.mu id k (off + l) (len - l) (cap - l)))) : AWPL E ops (⟨dst, .slice t x (some lo) none none, ty, pos, after, none⟩ :: rest) Q st := by
  intro w0 im0 cx a w h0' hG r
  refine wpList_step (fun K' hK' => ?_)
  have hw : Region.wanted ⟨dst, .slice t x (some lo) none none, ty, pos, after, none⟩ (yielded ops a.tmps) = true := rfl
  rw [if_pos hw]
  have hv := r.ev x
  rw [hs] at hv
  have hlv := r.ev lo
  rw [hl] at hlv
  have hlo := hlv.inv_v
  rcases hv.inv_mu with ⟨g, hb, hcap, hve⟩ | ⟨hz, _, _⟩
  rotate_left
  · omega
  have hbr := bounds_run (P := E.P) (w := w) (c := cx) (isS := true) (len := len) (cap := cap) (lo := some (i64 (l : Int))) (hi := none) (vl := some (a.eval lo)) (vh := none) (l := (l : Int)) (h := (len : Int))
    (fun y hy => by cases hy; exact ⟨_, rfl, hlv⟩) (fun hy => by cases hy) (fun y hy => by cases hy) (fun _ => rfl) rfl rfl (by omega) (by omega) (by omega) hcap
  have hrun : (Instr.sliceAt t (a.eval x) (some (a.eval lo)) none none).run E.P w = .ok (.slice (some ⟨g, (off + l) * k, none⟩) (len - l) (cap - l)) w := by
    rw [hve]
    simp only [Instr.sliceAt, Sem.run_bind, underlying_run hu, Result.andThen_ok, Instr.slice, hbr, tsz_run hsz, Sem.run_pure]
    have hne : ¬ cap = l := by omega
    simp [hne, Addr.add, Nat.add_mul]
  refine wp_value (w' := w) (v := .slice (some ⟨g, (off + l) * k, none⟩) (len - l) (cap - l)) ?_ (hK' _ _ (h w0 im0 _ _ _ h0' hG (r.put dst (.mu hb (by omega)))))
  simp only [execOp, Option.map_some, Option.map_none, Sem.run_bind, hrun, Result.andThen_ok, Sem.run_pure]
end Go.Abs
end
section
/- Contracts of the library's functions at this program: laid by program off the shelf, in plain words. -/
namespace Go.Proofs
open Go.Shelf
def Tryz.lays264_ren : Go.Shelf.Ren := ⟨fun | 264 => 161 | n => n, fun | 53 => 201 | 46 => 205 | n => n, fun | n => n⟩
theorem Tryz.lays264 : Go.Proofs.Lays.n264 Tryz.prog Tryz.lays264_ren := {
  mixed := by kernel_rfl
  f264 := Tryz.func161.trans (congrArg some (by kernel_rfl))
  t46 := Tryz.underlying205
  a46 := Tryz.isAgg205
  z46 := Tryz.sizeOf205
  v46 := Tryz.zeroValue205
  t53 := Tryz.underlying201
  a53 := Tryz.isAgg201
  z53 := Tryz.sizeOf201
  v53 := Tryz.zeroValue201 }
open Go.RowKit Go.Lib in
theorem Tryz.bits_Mul64 (x y : Nat) (hx : x < 18446744073709551616) (hy : y < 18446744073709551616) (w : World) :
    Calls Tryz.prog 161 #[.int .u64 x, .int .u64 y] w fun e w' => e = .returned (.tuple #[.int .u64 ((x * y / 18446744073709551616 : Nat) : Int), .int .u64 ((x * y % 18446744073709551616 : Nat) : Int)]) ∧ w' = w := Any.bits_Mul64 Tryz.lays264 x y hx hy w
def Tryz.sorted98_ren : Go.Shelf.Ren := ⟨fun | 6 => 98 | 8 => 164 | 9 => 103 | 11 => 196 | 13 => 169 | 12 => 168 | 23 => 205 | 24 => 206 | 14 => 197 | 15 => 198 | 16 => 199 | 17 => 200 | 18 => 201 | 19 => 202 | 20 => 166 | 21 => 203 | 22 => 204 | 25 => 228 | 26 => 229 | 27 => 230 | 28 => 231 | 29 => 232 | 30 => 183 | 31 => 254 | n => n, fun | 26 => 9 | 28 => 145 | 24 => 24 | 0 => 0 | 3 => 3 | 37 => 205 | 48 => 53 | 50 => 201 | 4 => 4 | 40 => 226 | 39 => 225 | 45 => 148 | 5 => 5 | 9 => 9 | 51 => 243 | 55 => 247 | 57 => 263 | 58 => 264 | 33 => 195 | n => n, fun | n => n⟩
theorem Tryz.sorted98 : Go.Proofs.SlLaysZ.n6 Tryz.prog Tryz.sorted98_ren := {
  mixed := by kernel_rfl
  f6 := ⟨Tryz.f98.name, by decide, Tryz.func98.trans (congrArg some (by kernel_rfl))⟩
  f8 := ⟨Tryz.f164.name, by decide, Tryz.func164.trans (congrArg some (by kernel_rfl))⟩
  f11 := ⟨Tryz.f196.name, by decide, Tryz.func196.trans (congrArg some (by kernel_rfl))⟩
  t0 := Tryz.underlying0
  a0 := Tryz.isAgg0
  z0 := Tryz.sizeOf0
  v0 := Tryz.zeroValue0
  t24 := Tryz.underlying24
  a24 := Tryz.isAgg24
  z24 := Tryz.sizeOf24
  v24 := Tryz.zeroValue24
  t26 := Tryz.underlying9
  a26 := Tryz.isAgg9
  z26 := Tryz.sizeOf9
  v26 := Tryz.zeroValue9
  t28 := Tryz.underlying145
  a28 := Tryz.isAgg145
  z28 := Tryz.sizeOf145
  v28 := Tryz.zeroValue145
  i26 := by kernel_rfl }
def Tryz.sort50_ren : Go.Shelf.Ren := ⟨fun | 6 => 103 | 8 => 169 | 9 => 168 | 19 => 205 | 20 => 206 | 21 => 197 | 22 => 198 | 23 => 199 | 24 => 200 | 25 => 201 | 26 => 202 | 27 => 166 | 28 => 203 | 29 => 204 | 36 => 228 | 31 => 229 | 32 => 230 | 37 => 231 | 38 => 232 | 39 => 183 | 41 => 254 | n => n, fun | 27 => 24 | 29 => 9 | 3 => 3 | 32 => 205 | 26 => 24 | 0 => 0 | 44 => 53 | 46 => 201 | 4 => 4 | 36 => 226 | 35 => 225 | 41 => 148 | 5 => 5 | 9 => 9 | 53 => 243 | 57 => 247 | 63 => 263 | 64 => 264 | n => n, fun | n => n⟩
theorem Tryz.sort50 : Go.Proofs.SlLaysM.n6 Tryz.prog Tryz.sort50_ren := {
  mixed := by kernel_rfl
  f6 := ⟨Tryz.f103.name, by decide, Tryz.func103.trans (congrArg some (by kernel_rfl))⟩
  f8 := Tryz.func169.trans (congrArg some (by kernel_rfl))
  f9 := ⟨Tryz.f168.name, by decide, Tryz.func168.trans (congrArg some (by kernel_rfl))⟩
  f19 := Tryz.func205.trans (congrArg some (by kernel_rfl))
  f20 := Tryz.func206.trans (congrArg some (by kernel_rfl))
  f21 := ⟨Tryz.f197.name, by decide, Tryz.func197.trans (congrArg some (by kernel_rfl))⟩
  f22 := ⟨Tryz.f198.name, by decide, Tryz.func198.trans (congrArg some (by kernel_rfl))⟩
  f23 := ⟨Tryz.f199.name, by decide, Tryz.func199.trans (congrArg some (by kernel_rfl))⟩
  f24 := ⟨Tryz.f200.name, by decide, Tryz.func200.trans (congrArg some (by kernel_rfl))⟩
  f25 := ⟨Tryz.f201.name, by decide, Tryz.func201.trans (congrArg some (by kernel_rfl))⟩
  f26 := ⟨Tryz.f202.name, by decide, Tryz.func202.trans (congrArg some (by kernel_rfl))⟩
  f27 := ⟨Tryz.f166.name, by decide, Tryz.func166.trans (congrArg some (by kernel_rfl))⟩
  f28 := ⟨Tryz.f203.name, by decide, Tryz.func203.trans (congrArg some (by kernel_rfl))⟩
  f29 := ⟨Tryz.f204.name, by decide, Tryz.func204.trans (congrArg some (by kernel_rfl))⟩
  f31 := Tryz.func229.trans (congrArg some (by kernel_rfl))
  f32 := Tryz.func230.trans (congrArg some (by kernel_rfl))
  f36 := ⟨Tryz.f228.name, by decide, Tryz.func228.trans (congrArg some (by kernel_rfl))⟩
  f37 := ⟨Tryz.f231.name, by decide, Tryz.func231.trans (congrArg some (by kernel_rfl))⟩
  f38 := ⟨Tryz.f232.name, by decide, Tryz.func232.trans (congrArg some (by kernel_rfl))⟩
  f39 := ⟨Tryz.f183.name, by decide, Tryz.func183.trans (congrArg some (by kernel_rfl))⟩
  f41 := ⟨Tryz.f254.name, by decide, Tryz.func254.trans (congrArg some (by kernel_rfl))⟩
  t0 := Tryz.underlying0
  a0 := Tryz.isAgg0
  z0 := Tryz.sizeOf0
  v0 := Tryz.zeroValue0
  t3 := Tryz.underlying3
  a3 := Tryz.isAgg3
  z3 := Tryz.sizeOf3
  v3 := Tryz.zeroValue3
  t4 := Tryz.underlying4
  a4 := Tryz.isAgg4
  z4 := Tryz.sizeOf4
  v4 := Tryz.zeroValue4
  t5 := Tryz.underlying5
  a5 := Tryz.isAgg5
  z5 := Tryz.sizeOf5
  v5 := Tryz.zeroValue5
  t9 := Tryz.underlying9
  a9 := Tryz.isAgg9
  z9 := Tryz.sizeOf9
  v9 := Tryz.zeroValue9
  t26 := Tryz.underlying24
  a26 := Tryz.isAgg24
  z26 := Tryz.sizeOf24
  v26 := Tryz.zeroValue24
  t27 := Tryz.underlying24
  a27 := Tryz.isAgg24
  z27 := Tryz.sizeOf24
  v27 := Tryz.zeroValue24
  t29 := Tryz.underlying9
  a29 := Tryz.isAgg9
  z29 := Tryz.sizeOf9
  v29 := Tryz.zeroValue9
  t32 := Tryz.underlying205
  a32 := Tryz.isAgg205
  z32 := Tryz.sizeOf205
  v32 := Tryz.zeroValue205
  t35 := Tryz.underlying225
  a35 := Tryz.isAgg225
  z35 := Tryz.sizeOf225
  v35 := Tryz.zeroValue225
  t36 := Tryz.underlying226
  a36 := Tryz.isAgg226
  z36 := Tryz.sizeOf226
  v36 := Tryz.zeroValue226
  t41 := Tryz.underlying148
  a41 := Tryz.isAgg148
  z41 := Tryz.sizeOf148
  v41 := Tryz.zeroValue148
  t44 := Tryz.underlying53
  a44 := Tryz.isAgg53
  z44 := Tryz.sizeOf53
  v44 := Tryz.zeroValue53
  t46 := Tryz.underlying201
  a46 := Tryz.isAgg201
  z46 := Tryz.sizeOf201
  v46 := Tryz.zeroValue201
  t53 := Tryz.underlying243
  a53 := Tryz.isAgg243
  z53 := Tryz.sizeOf243
  v53 := Tryz.zeroValue243
  t57 := Tryz.underlying247
  a57 := Tryz.isAgg247
  z57 := Tryz.sizeOf247
  v57 := Tryz.zeroValue247
  t63 := Tryz.underlying263
  a63 := Tryz.isAgg263
  z63 := Tryz.sizeOf263
  v63 := Tryz.zeroValue263
  t64 := Tryz.underlying264
  a64 := Tryz.isAgg264
  z64 := Tryz.sizeOf264
  v64 := Tryz.zeroValue264 }
end Go.Proofs
end
section
set_option linter.unusedVariables false
set_option linter.unusedSimpArgs false
namespace Go.Proofs.YtajeeghgiilhiaaGreat
open Go Go.Abs Go.RowKit Go.Bk
theorem tup2_0 {im : Im} (a b : Value) : VR0 im (.tup [.v a, .v b]) (.tuple #[a, b]) := .tup [_, _] [_, _] rfl (fun i c u h1 h2 => by
  match i with
  | 0 => simp at h1 h2; subst h1; subst h2; exact .v _
  | 1 => simp at h1 h2; subst h1; subst h2; exact .v _
  | i + 2 => simp at h1)
theorem tup2 {c : Ctx} (a b : Value) : VR c (.tup [.v a, .v b]) (.tuple #[a, b]) := .base (tup2_0 a b)
theorem mul64_c (x y : Nat) (hx : x < 18446744073709551616) (hy : y < 18446744073709551616) : ACalls E 161 [.v (.int .u64 x), .v (.int .u64 y)] (fun r t => r = .tup [.v (.int .u64 ((x * y / 18446744073709551616 : Nat) : Int)), .v (.int .u64 ((x * y % 18446744073709551616 : Nat) : Int))] ∧ t = []) :=
  ACalls.of_pure (E := E) (f := 161) (xs := [.int .u64 x, .int .u64 y]) (S := fun v => v = .tuple #[.int .u64 ((x * y / 18446744073709551616 : Nat) : Int), .int .u64 ((x * y % 18446744073709551616 : Nat) : Int)])
    (fun w _ => (Tryz.bits_Mul64 x y hx hy w).mono (by rintro e w' ⟨rfl, rfl⟩; exact ⟨⟨_, rfl, rfl⟩, rfl⟩))
    (by rintro v rfl; exact ⟨_, fun _ => tup2_0 _ _, rfl, rfl⟩)
theorem add64_run (x y c : Int) (hx : 0 ≤ x) (hx2 : x < M64) (hy : 0 ≤ y) (hy2 : y < M64) (hc : 0 ≤ c) (hc2 : c ≤ 1) (w : World) : (callFunc 188 #[.int .u64 x, .int .u64 y, .int .u64 c]).run E.P w = .ok (.value (.tuple #[.int .u64 ((x + y + c) % M64), .int .u64 ((x + y + c) / M64)])) w := by
  obtain ⟨x, rfl⟩ := Int.eq_ofNat_of_zero_le hx
  obtain ⟨y, rfl⟩ := Int.eq_ofNat_of_zero_le hy
  obtain ⟨c, rfl⟩ := Int.eq_ofNat_of_zero_le hc
  unfold M64 at *
  show (callFunc 188 _).run Tryz.prog w = _
  rw [run_callFunc_extern Tryz.func188 (by kernel_rfl) (by kernel_rfl) (by kernel_rfl) (e := add64Entry) (by kernel_rfl), run_add64 x y c (by omega) (by omega) (by omega) (by omega)]
  simp only [Result.andThen]
  (try congr 5 <;> omega)
theorem add_step1 {l : List Int} {i : Nat} {n : Int} (hn : l[i]? = some n) (w : World) : (callFunc 188 [.int .u64 (loW (sumL (l.take i))), .int .u64 (IntKind.u64.wrap n), .int .u64 0].toArray).run E.P w = .ok (.value (.tuple #[.int .u64 (loW (sumL (l.take (i + 1)))), .int .u64 ((loW (sumL (l.take i)) + n % M64) / M64)])) w := by
  have h1 := lo_rng (sumL (l.take i))
  have h2 : 0 ≤ n % M64 ∧ n % M64 < M64 := ⟨Int.emod_nonneg _ (by decide), Int.emod_lt_of_pos _ (by decide)⟩
  rw [u64_wrap]
  refine (add64_run _ _ 0 h1.1 h1.2 h2.1 h2.2 (by omega) (by omega) w).trans ?_
  rw [Int.add_zero, add_lo, take_next hn, sumL_app]
  simp [sumL]
theorem add_step2 {l : List Int} {i : Nat} {n : Int} (hn : l[i]? = some n) (hr : -4611686018427387904 ≤ n ∧ n ≤ 4611686018427387904) (w : World) : (callFunc 188 [.int .u64 (hiW (sumL (l.take i))), .int .u64 (IntKind.u64.wrap (n.fdiv (2 ^ (min 63 64)))), .int .u64 ((loW (sumL (l.take i)) + n % M64) / M64)].toArray).run E.P w =
    .ok (.value (.tuple #[.int .u64 (hiW (sumL (l.take (i + 1)))), .int .u64 ((hiW (sumL (l.take i)) + (n / 9223372036854775808) % M64 + (loW (sumL (l.take i)) + n % M64) / M64) / M64)])) w := by
  have h1 := hi_rng (sumL (l.take i))
  have h2 : 0 ≤ (n / 9223372036854775808) % M64 ∧ (n / 9223372036854775808) % M64 < M64 := ⟨Int.emod_nonneg _ (by decide), Int.emod_lt_of_pos _ (by decide)⟩
  have h3 := add_carry (sumL (l.take i)) n
  rw [u64_wrap, show (2 : Int) ^ (min 63 64) = 9223372036854775808 by decide, Int.fdiv_eq_ediv_of_nonneg _ (by omega)]
  refine (add64_run _ _ _ h1.1 h1.2 h2.1 h2.2 (by omega) (by omega) w).trans ?_
  rw [add_hi (by omega) (by omega), take_next hn, sumL_app]
  simp [sumL]
theorem all_num {l : List Int} {i : Nat} {n : Int} (hn : l[i]? = some n) (h : (l.take i).all numB = true) (h2 : numB n = true) : (l.take (i + 1)).all numB = true := by
  rw [take_next hn, List.all_append, h]; simp [h2]
section
variable {a b : Int}
theorem mul_no1 (h : numB a = false) : mulF a b = (0, false) := by unfold mulF; simp [h]
theorem mul_no2 (h : numB b = false) : mulF a b = (0, false) := by unfold mulF; simp [h]
theorem mul_abs : (a * b).natAbs = a.natAbs * b.natAbs := Int.natAbs_mul a b
theorem mul_no3 (h : ¬ ((a.natAbs * b.natAbs / 18446744073709551616 : Nat) : Int) = 0 ∨ (4611686018427387904 : Int) < ((a.natAbs * b.natAbs % 18446744073709551616 : Nat) : Int)) : mulF a b = (0, false) := by
  have hm : numB (a * b) = false := by
    rw [numB_no]; rw [← mul_abs] at h; omega
  unfold mulF; simp [hm]
theorem mul_cast : ((a.natAbs * b.natAbs : Nat) : Int) = (a.natAbs : Int) * (b.natAbs : Int) := Int.natCast_mul _ _
theorem mul_neg (c : ¬ decide (a < 0) = decide (b < 0)) : a * b = -((a.natAbs * b.natAbs : Nat) : Int) := by
  rw [mul_cast]
  by_cases h1 : a < 0 <;> by_cases h2 : b < 0
  · simp [h1, h2] at c
  · rw [show (a.natAbs : Int) = -a by omega, show (b.natAbs : Int) = b by omega, Int.neg_mul, Int.neg_neg]
  · rw [show (a.natAbs : Int) = a by omega, show (b.natAbs : Int) = -b by omega, Int.mul_neg, Int.neg_neg]
  · simp [h1, h2] at c
theorem mul_pos' (c : decide (a < 0) = decide (b < 0)) : a * b = ((a.natAbs * b.natAbs : Nat) : Int) := by
  rw [mul_cast]
  by_cases h1 : a < 0 <;> by_cases h2 : b < 0
  · rw [show (a.natAbs : Int) = -a by omega, show (b.natAbs : Int) = -b by omega, Int.neg_mul, Int.mul_neg, Int.neg_neg]
  · simp [h1, h2] at c
  · simp [h1, h2] at c
  · rw [show (a.natAbs : Int) = a by omega, show (b.natAbs : Int) = b by omega]
variable (ha : numB a = true) (hb : numB b = true) (h : ((a.natAbs * b.natAbs / 18446744073709551616 : Nat) : Int) = 0) (h2 : ¬ (4611686018427387904 : Int) < ((a.natAbs * b.natAbs % 18446744073709551616 : Nat) : Int))
include ha hb h h2
theorem mul_fin : mulF a b = (a * b, true) := by
  have : numB (a * b) = true := by
    rw [numB_iff]; rw [← mul_abs] at h h2; omega
  unfold mulF; rw [ha, hb, this]; rfl
theorem mul_y1 (c : ¬ decide (a < 0) = decide (b < 0)) : IntKind.i64.wrap (0 - IntKind.i64.wrap ((a.natAbs * b.natAbs % 18446744073709551616 : Nat) : Int)) = (mulF a b).1 := by
  rw [mul_fin ha hb h h2, mul_neg c]
  generalize a.natAbs * b.natAbs = p at *
  rw [wrap64_id (x := ((p % 18446744073709551616 : Nat) : Int)) (by omega) (by omega), wrap64_id (by omega) (by omega)]; simp only []; omega
theorem mul_y2 (c : decide (a < 0) = decide (b < 0)) : IntKind.i64.wrap ((a.natAbs * b.natAbs % 18446744073709551616 : Nat) : Int) = (mulF a b).1 := by
  rw [mul_fin ha hb h h2, mul_pos' c]
  generalize a.natAbs * b.natAbs = p at *
  rw [wrap64_id (by omega) (by omega)]; simp only []; omega
end
theorem wrap_lo (s : Int) : IntKind.i64.wrap (loW s) = IntKind.i64.wrap s := by
  unfold IntKind.wrap loW
  have h3 : (s % M64) % (2 : Int) ^ IntKind.i64.bits = s % (2 : Int) ^ IntKind.i64.bits := by
    show (s % M64) % (2 : Int) ^ 64 = s % (2 : Int) ^ 64
    unfold M64; omega
  exact congrArg (fun r : Int => if (IntKind.i64.signed && decide (r ≥ 2 ^ (IntKind.i64.bits - 1))) = true then r - 2 ^ IntKind.i64.bits else r) h3
section
variable {l : List Int} {i : Nat} (hl : l.length ≤ 1000000) (hi : ¬ (i : Int) < l.length) (hi2 : i ≤ l.length) (ha : (l.take i).all numB = true)
include hl hi ha
theorem sum_fits (h : hiW (sumL (l.take i)) = IntKind.u64.wrap ((IntKind.i64.wrap (loW (sumL (l.take i)))).fdiv (2 ^ min 63 64))) : IntKind.i64.wrap (loW (sumL (l.take i))) = sumL (l.take i) := by
  have hb := sumL_bnd ha
  have hlen : (l.take i).length ≤ 1000000 := by rw [List.length_take]; omega
  rw [u64_wrap, show (2 : Int) ^ (min 63 64) = 9223372036854775808 by decide, Int.fdiv_eq_ediv_of_nonneg _ (by omega)] at h
  exact (fits (by omega) (by omega)).1 h
theorem sum_no1 (h : hiW (sumL (l.take i)) = IntKind.u64.wrap ((IntKind.i64.wrap (loW (sumL (l.take i)))).fdiv (2 ^ min 63 64))) (c : numB (IntKind.i64.wrap (loW (sumL (l.take i)))) = false) : sumF l = (0, false) := by
  rw [sum_fits hl hi ha h] at c
  rw [List.take_of_length_le (by omega)] at c ha
  exact sumF_over ha c
theorem sum_yes (h : hiW (sumL (l.take i)) = IntKind.u64.wrap ((IntKind.i64.wrap (loW (sumL (l.take i)))).fdiv (2 ^ min 63 64))) (c : numB (IntKind.i64.wrap (loW (sumL (l.take i)))) = true) : sumF l = (IntKind.i64.wrap (loW (sumL (l.take i))), true) := by
  rw [sum_fits hl hi ha h] at c ⊢
  rw [List.take_of_length_le (by omega)] at c ha ⊢
  exact sumF_yes ha c
theorem sum_no2 (h : ¬ hiW (sumL (l.take i)) = IntKind.u64.wrap ((IntKind.i64.wrap (loW (sumL (l.take i)))).fdiv (2 ^ min 63 64))) : sumF l = (0, false) := by
  have hb := sumL_bnd ha
  have hlen : (l.take i).length ≤ 1000000 := by rw [List.length_take]; omega
  rw [u64_wrap, show (2 : Int) ^ (min 63 64) = 9223372036854775808 by decide, Int.fdiv_eq_ediv_of_nonneg _ (by omega), fits (by omega) (by omega), wrap_lo] at h
  have hn : numB (sumL (l.take i)) = false := by
    rw [numB_no]; intro h2; exact h (wrap64_id (by omega) (by omega))
  rw [List.take_of_length_le (by omega)] at ha hn
  exact sumF_over ha hn
end

set_option maxHeartbeats 4000000 in
set_option maxRecDepth 8000 in
theorem numr_c (n : Int) : ACalls E 105 [i64 n] (fun r t => r = bl (numB n) ∧ t = []) := by -- checkroll/num.Right
  refine ACalls.of_awp (n := 9) (rs := [.tmp 2]) Tryz.func105 rfl Tryz.ntmps105 rfl ?_
  repeat' (first
    | refine AWP.seqk fun K hK => ?_
    | (refine AWP.region ?_; simp only [go_sem])
    | (refine hK _ ?_; clear hK K)
    | refine AWP.block ?_
    | refine AWP.cond rfl (fun c => ?_) (fun c => ?_) <;> first | exact Bool.noConfusion c | (try simp only [dD] at c)
    | refine AWP.skip ?_
    | (refine AWP.exit ?_; simp only [go_sem])
    | (refine AGuard.splitN (fun h => ?_) (fun h => ?_) <;> simp only [h, go_sem] <;> (try simp only [dD] at h))
    | (refine AGuard.split (fun h => ?_) (fun h => ?_) <;> simp only [h, go_sem] <;> (try simp only [dD] at h))
    | (refine AGet.haveM (by assumption) ?_; (try simp only [go_sem]))
    | (refine AGet.have' (by assumption) ?_; (try simp only [go_sem]))
    | ((first | refine AGet.nth ?_ (fun b hb => ?_) | refine AGet.nth1 ?_ (fun b hb => ?_) | with_reducible refine And.intro ?_ ?_); (focus (first | omega | assumption | exact List.length_pos_iff.2 (by assumption) | (simp only [List.length_append, List.length_cons, List.length_nil, List.length_map, List.length_take, List.length_drop] at *; omega) | (rw [wrap64_id (by omega) (by omega)]; omega) | (simp; done) | (simp [spare_len]; done) | (exact ⟨by omega, by omega⟩))); (try simp only [hb, go_sem]))
    | (
        refine AWP.ret ?_
        refine AEnd.is ?_; simp only [go_sem, out_v, out_s, out_n, v_int, v_bool, v_str] <;> (simp [numB, *] <;> omega))
    | refine AWP.fin (by assumption) ?_)

set_option maxHeartbeats 4000000 in
set_option maxRecDepth 8000 in
theorem nsize_c (n : Int) (h : numB n = true) : ACalls E 162 [i64 n] (fun r t => r = .v (.int .u64 (n.natAbs : Int)) ∧ t = []) := by -- checkroll/num.size
  have hb := numB_iff.1 h
  refine ACalls.of_awp (n := 9) (rs := [.tmp 2]) Tryz.func162 rfl Tryz.ntmps162 rfl ?_
  repeat' (first
    | refine AWP.seqk fun K hK => ?_
    | (refine AWP.region ?_; simp only [go_sem])
    | (refine hK _ ?_; clear hK K)
    | refine AWP.block ?_
    | refine AWP.cond rfl (fun c => ?_) (fun c => ?_) <;> first | exact Bool.noConfusion c | (try simp only [dD] at c)
    | refine AWP.skip ?_
    | (refine AWP.exit ?_; simp only [go_sem])
    | (refine AGet.haveM (by assumption) ?_; (try simp only [go_sem]))
    | (refine AGet.have' (by assumption) ?_; (try simp only [go_sem]))
    | ((first | refine AGet.nth ?_ (fun b hb => ?_) | refine AGet.nth1 ?_ (fun b hb => ?_) | with_reducible refine And.intro ?_ ?_); (focus (first | omega | assumption | exact List.length_pos_iff.2 (by assumption) | (simp only [List.length_append, List.length_cons, List.length_nil, List.length_map, List.length_take, List.length_drop] at *; omega) | (rw [wrap64_id (by omega) (by omega)]; omega) | (simp; done) | (simp [spare_len]; done) | (exact ⟨by omega, by omega⟩))); (try simp only [hb, go_sem]))
    | (
        refine AWP.ret ?_
        refine AEnd.is ?_; simp only [go_sem, out_v, out_s, out_n, v_int, v_bool, v_str] <;> (first | (rw [u64_wrap]; unfold M64; rw [wrap64_id (by omega) (by omega)]; omega) | (rw [u64_wrap]; unfold M64; omega) | skip))
    | refine AWP.fin (by assumption) ?_)

set_option maxHeartbeats 4000000 in
set_option maxRecDepth 8000 in
theorem nmul_c (a b : Int) : ACalls E 95 [i64 a, i64 b] (fun r t => r = .tup [i64 (mulF a b).1, bl (mulF a b).2] ∧ t = []) := by -- checkroll/num.Mul
  refine ACalls.of_awp (n := 41) (rs := [.tmp 4, .tmp 5]) Tryz.func95 rfl Tryz.ntmps95 rfl ?_
  repeat' (first
    | refine AWP.seqk fun K hK => ?_
    | (refine AWP.region ?_; simp only [go_sem])
    | (refine hK _ ?_; clear hK K)
    | refine AWP.block ?_
    | refine AWP.cond rfl (fun c => ?_) (fun c => ?_) <;> first | exact Bool.noConfusion c | (try simp only [dD] at c)
    | refine AWP.skip ?_
    | (refine AWP.exit ?_; simp only [go_sem])
    | (refine ACall.one (numr_c _) (by kernel_rfl) rfl ?_; simp only [go_sem])
    | (refine ACall.one (nsize_c _ (by assumption)) (by kernel_rfl) rfl ?_; simp only [go_sem])
    | (have ha := numB_iff.1 (show numB a = true by assumption); have hb := numB_iff.1 (show numB b = true by assumption); refine ACall.one (mul64_c a.natAbs b.natAbs (by omega) (by omega)) (by kernel_rfl) rfl ?_; simp only [go_sem])
    | (refine AGuard.splitN (fun h => ?_) (fun h => ?_) <;> simp only [h, go_sem] <;> (try simp only [dD] at h))
    | (refine AGuard.split (fun h => ?_) (fun h => ?_) <;> simp only [h, go_sem] <;> (try simp only [dD] at h))
    | (refine AGet.haveM (by assumption) ?_; (try simp only [go_sem]))
    | (refine AGet.have' (by assumption) ?_; (try simp only [go_sem]))
    | ((first | refine AGet.nth ?_ (fun b hb => ?_) | refine AGet.nth1 ?_ (fun b hb => ?_) | with_reducible refine And.intro ?_ ?_); (focus (first | omega | assumption | exact List.length_pos_iff.2 (by assumption) | (simp only [List.length_append, List.length_cons, List.length_nil, List.length_map, List.length_take, List.length_drop] at *; omega) | (rw [wrap64_id (by omega) (by omega)]; omega) | (simp; done) | (simp [spare_len]; done) | (exact ⟨by omega, by omega⟩))); (try simp only [hb, go_sem]))
    | (
        refine AWP.ret ?_
        refine AEnd.is ?_; simp only [go_sem, out_v, out_s, out_n, v_int, v_bool, v_str] <;> (first
        | (rw [mul_no1 (by assumption)]; simp; done)
        | (rw [mul_no2 (by assumption)]; simp; done)
        | (rw [mul_no3 (.inl (by assumption))]; simp; done)
        | (rw [mul_no3 (.inr (by assumption))]; simp; done)
        | (rw [mul_y1 (by assumption) (by assumption) (by assumption) (by assumption) (by assumption), mul_fin (by assumption) (by assumption) (by assumption) (by assumption)]; simp; done)
        | (rw [mul_y2 (by assumption) (by assumption) (by assumption) (by assumption) (by assumption), mul_fin (by assumption) (by assumption) (by assumption) (by assumption)]; simp; done)
        | skip))
    | refine AWP.fin (by assumption) ?_)

set_option maxHeartbeats 4000000 in
set_option maxRecDepth 8000 in
theorem nsum_c (l : List Int) (hl : l.length ≤ 1000000) : ACalls E 141 [.sl none 1 (l.map i64)] (fun r t => r = .tup [i64 (sumF l).1, bl (sumF l).2] ∧ t = []) := by -- checkroll/num.Sum
  refine ACalls.of_awp (n := 49) (rs := [.tmp 2, .tmp 3]) Tryz.func141 rfl Tryz.ntmps141 rfl ?_
  repeat' (first
    | refine AWP.seqk fun K hK => ?_
    | (
        refine AWP.here 4 14 3 rfl ?_
        obtain ⟨n, hn⟩ : ∃ n, l[i]? = some n := ⟨_, List.getElem?_eq_getElem (by omega)⟩
        refine AWP.region ?_; simp only [go_sem])
    | (
        refine AWP.here 8 20 9 rfl ?_
        have hnr := numB_iff.1 (show numB n = true by assumption)
        refine AWP.regionL ?_
        refine AWPL.at 9 3 rfl ?_
        simp only [go_sem]
        refine AWPL.native [.int .u64 (loW (sumL (l.take i))), .int .u64 (IntKind.u64.wrap n), .int .u64 0] _ _ rfl (add_step1 hn) (fun c => tup2 _ _) ?_
        simp only [go_sem]
        refine AWPL.of ?_
        simp only [go_sem])
    | (
        refine AWP.here 9 27 10 rfl ?_
        refine AWP.regionL ?_
        refine AWPL.at 10 5 rfl ?_
        simp only [go_sem]
        refine AWPL.native [.int .u64 (hiW (sumL (l.take i))), .int .u64 (IntKind.u64.wrap (n.fdiv (2 ^ (min 63 64)))), .int .u64 ((loW (sumL (l.take i)) + n % M64) / M64)] _ _ rfl (add_step2 hn hnr) (fun c => tup2 _ _) ?_
        simp only [go_sem]
        refine AWPL.of ?_
        simp only [go_sem])
    | (refine AWP.region ?_; simp only [go_sem])
    | (refine hK _ ?_; clear hK K)
    | refine AWP.block ?_
    | refine AWP.cond rfl (fun c => ?_) (fun c => ?_) <;> first | exact Bool.noConfusion c | (try simp only [dD] at c)
    | refine AWP.skip ?_
    | (refine AWP.exit ?_; simp only [go_sem])
    | (refine ACall.one (numr_c _) (by kernel_rfl) rfl ?_; simp only [go_sem])
    | (refine AGuard.splitN (fun h => ?_) (fun h => ?_) <;> simp only [h, go_sem] <;> (try simp only [dD] at h))
    | (refine AGuard.split (fun h => ?_) (fun h => ?_) <;> simp only [h, go_sem] <;> (try simp only [dD] at h))
    | (refine AGet.haveM (by assumption) ?_; (try simp only [go_sem]))
    | (refine AGet.have' (by assumption) ?_; (try simp only [go_sem]))
    | ((first | refine AGet.nth ?_ (fun b hb => ?_) | refine AGet.nth1 ?_ (fun b hb => ?_) | with_reducible refine And.intro ?_ ?_); (focus (first | omega | assumption | exact List.length_pos_iff.2 (by assumption) | (simp only [List.length_append, List.length_cons, List.length_nil, List.length_map, List.length_take, List.length_drop] at *; omega) | (rw [wrap64_id (by omega) (by omega)]; omega) | (simp; done) | (simp [spare_len]; done) | (exact ⟨by omega, by omega⟩))); (try simp only [hb, go_sem]))
    | (
        refine AWP.here 3 13 1 rfl ?_
        refine AWP.loopN (ι := Nat) [2, 3, 7, 8, 13, 14, 15, 16, 17, 18, 19, 20, 21, 22, 23, 24, 25, 26, 27, 28, 29, 30, 31, 32, 33, 34, 35] (fun (i : Nat) => [(12, i64 i), (4, (.v (.int .u64 (hiW (sumL (l.take i)))))), (5, (.v (.int .u64 (loW (sumL (l.take i))))))]) (fun (i : Nat) => i ≤ l.length ∧ (l.take i).all numB = true) (fun (i : Nat) => l.length - i) (0) ?_ ?_ ?_
        · (try simp only [go_sem]); (repeat' (first | refine And.intro ?_ ?_ | exact .inl rfl | exact .inr rfl | exact .inr ⟨rfl, rfl⟩ | trivial | exact .inr (oblA rfl) | exact .inr ⟨rfl, oblA rfl⟩ | exact .inr bel_strs | exact .inr ⟨rfl, bel_strs⟩ | exact .inr ⟨by simp, bel_strs⟩ | (simp; done) | exact .inr ⟨rfl, by simp⟩ | exact .inr ⟨by simp, by simp⟩)); done
        · exact ⟨Nat.zero_le _, by simp⟩
        rintro i ⟨h1, h2⟩
        simp only [go_sem])
    | (
        refine ⟨i + 1, ?_, ?_, ?_⟩
        · (try simp only [go_sem]); (try rw [wrap64_id (by omega) (by omega)]); (try rw [step_hi hn hnr]); (repeat' (first | refine And.intro ?_ ?_ | exact .inl rfl | exact .inr rfl | exact .inr ⟨rfl, rfl⟩ | trivial | exact .inr (oblA rfl) | exact .inr ⟨rfl, oblA rfl⟩ | exact .inr bel_strs | exact .inr ⟨rfl, bel_strs⟩ | exact .inr ⟨by simp, bel_strs⟩ | (simp; done) | exact .inr ⟨rfl, by simp⟩ | exact .inr ⟨by simp, by simp⟩)); done
        · exact ⟨by omega, all_num hn h2 (by assumption)⟩
        · (try simp only []); omega)
    | (
        refine AWP.ret ?_
        refine AEnd.is ?_; simp only [go_sem, out_v, out_s, out_n, v_int, v_bool, v_str] <;> (first
        | (rw [sumF_no hn (by assumption)]; simp; done)
        | (rw [sum_no1 hl (by assumption) h2 (by assumption) (by assumption)]; simp; done)
        | (rw [sum_yes hl (by assumption) h2 (by assumption) (by assumption)]; simp; done)
        | (rw [sum_no2 hl (by assumption) h2 (by assumption)]; simp; done)
        | skip))
    | refine AWP.fin (by assumption) ?_)


end Go.Proofs.YtajeeghgiilhiaaGreat
end
section
/- The layer, the plain facts: several texts of one chain, put together (SqA, SqB, SqC). -/
/- slices.Sorted against an iterator that reads what lay before: the library's own proofs, turned: the caller's invariant tells that nothing old has turned. -/
namespace Go.Proofs
open Go.RowKit Go.Maps Go.Sort Go.Shelf
set_option linter.unusedVariables false
set_option linter.unusedSimpArgs false
variable {P : Program} {ρ : Ren}
/-- An iterator's word, to those who keep what lay in w. -/
def SeqB {α : Type} (F : Fence) (n : Nat) (P : Program) (g : Nat) (lb : Array Value) (enc : α → Value) (S : List α → Prop) (N : Nat) (w : World) : Prop :=
  ∀ (l : Nat) (J : List α → World → Prop) (W : World), Below w.heap.size w W → AbidesFrom W.heap.size J → (∀ pre W1, J pre W1 → Below w.heap.size w W1) →
    (∀ pre x W1, J pre W1 → pre.length < N → YieldAt F (n - 1) P l #[enc x] W1 fun e W' => e = .returned (.bool true) ∧ J (pre ++ [x]) W' ∧ KeepsWalks W1 W') →
    J [] W → CallsIn F n P g (#[.func (.yield l) #[] #[]] ++ lb) W fun e W' => (∃ v, e = .returned v) ∧ ∃ xs, S xs ∧ J xs W'
theorem SeqB.upto {α : Type} {F : Fence} {n : Nat} {P : Program} {g : Nat} {lb : Array Value} {enc : α → Value} {S : List α → Prop} {N : Nat} {w : World}
    (h : SeqB F n P g lb enc S N w) : SeqB F n P g lb enc (fun xs => S xs ∧ xs.length ≤ N) N w := fun l J W hW hJ hB hY h0 => by
  refine (h l (fun xs W' => J xs W' ∧ xs.length ≤ N) W hW (fun s A B row hs hg hr => ⟨hJ s A B row hs.1 hg hr, hs.2⟩) (fun pre W1 hj => hB pre W1 hj.1)
    (fun pre x W1 hj hl => (hY pre x W1 hj.1 hl).mono (fun e w' hr => ⟨hr.1, ⟨hr.2.1, by simp; omega⟩, hr.2.2⟩)) ⟨h0, Nat.zero_le _⟩).mono ?_
  rintro e W' ⟨hv, xs, hS, hJ', hlen⟩
  exact ⟨hv, xs, ⟨hS, hlen⟩, hJ'⟩

set_option maxRecDepth 100000 in
set_option maxHeartbeats 2000000 in
theorem Sq.appendSeq_b (L : SlLaysZ.n11 P ρ) (F : Fence) (n : Nat) (h11 : F.fn (ρ.f 11)) (hro : F.round = none) (hn : 2 ≤ n) (g : Nat) (lb : Array Value) (hFg : F.fn g) (eg : ∀ args w, (callFunc g args).run P w = .ok (.enter g args) w)
    (S : List (List UInt8) → Prop) (N : Nat) (hN : N ≤ maxLen) (hNb : N * 16 ≤ 140737488355328) (w : World) (hseq : SeqB F (n - 1) P g lb encStr S N w) :
    CallsIn F n P (ρ.f 11) #[.slice none 0 0, .func (.func g) #[] lb] w fun e w' => ∃ (v : Value) (ss : List (List UInt8)), e = .returned v ∧ S ss ∧ w'.ownsRow w.heap.size (ρ.t 26) 1 v ss.length (ss.map encStr) ∧ (v = .slice none 0 0 ↔ ss = []) ∧ Below w.heap.size w w' := by
  have h1 : 1 ≤ n := by omega
  have mixed := L.mixed; have t0 := L.t0; have a0 := L.a0; have z0 := L.z0; have v0 := L.v0; have t24 := L.t24; have a24 := L.a24; have z24 := L.z24; have v24 := L.v24; have t26 := L.t26; have a26 := L.a26; have z26 := L.z26; have v26 := L.v26; have t28 := L.t28; have a28 := L.a28; have z28 := L.z28; have v28 := L.v28
  have hne : ρ.t 24 ≠ ρ.t 26 := fun e => by have h := L.t24; rw [e, L.t26] at h; cases h
  have u0 := run_underlying L.t0; have u24 := run_underlying L.t24; have u26 := run_underlying L.t26; have u28 := run_underlying L.t28
  obtain ⟨_, _, FG⟩ := L.f11
  refine callsIn_of_wp_marks FG rfl h11 ?_ hro
  simp only [SlBodyZ.n11_ntmps ρ, List.size_toArray, List.length_cons, List.length_nil, Nat.reduceAdd, Nat.reduceSub, Array.replicate_succ, Array.replicate_zero, List.push_toArray, List.append_toArray, List.nil_append, List.cons_append]
  gi_wp2
  refine wpIn_rangeFunc ?_
  intro fn hfn
  rw [hro]
  obtain ⟨W0, hW0⟩ : ∃ W0, w.alloc (.cells #[.slice none 0 0] (ρ.t 24)) = W0 := ⟨_, rfl⟩
  have hs0 : W0.heap.size = w.heap.size + 1 := by rw [← hW0]; simp
  have hv0 : W0.heap[w.heap.size]? = some (.cells #[.slice none 0 0] (ρ.t 24) (0, 0)) := by rw [← hW0]; exact World.alloc_heap_new w _
  have hb0 : Below w.heap.size w W0 := by rw [← hW0]; exact (Below.refl _ w).alloc (Nat.le_refl _) _
  rw [hW0]
  obtain ⟨W1, hW1⟩ : ∃ W1, (W0.alloc (.deferred (some []))).alloc (.loop (AnyZ.apRec ρ fn (.func (.func g) #[] lb) w.heap.size W0.heap.size .ready none)) = W1 := ⟨_, rfl⟩
  have hold : ∀ k, k < W0.heap.size → W1.heap[k]? = W0.heap[k]? := fun k hk => by
    rw [← hW1]; exact (Below.heap_alloc _ _ k (by simp; omega)).trans (Below.heap_alloc _ _ k hk)
  have hb1 : Below w.heap.size w W1 := by rw [← hW1]; exact (hb0.alloc hb0.size _).alloc (by have := hb0.size; simp; omega) _
  have hs1 : W1.heap.size = W0.heap.size + 2 := by rw [← hW1]; simp
  have hM : AnyZ.ApAt ρ w fn (.func (.func g) #[] lb) w.heap.size (W0.heap.size + 1) W0.heap.size [] W1 :=
    ⟨⟨_, (hold w.heap.size (by omega)).trans hv0, ⟨rfl, .inl ⟨rfl, rfl⟩⟩, by simp⟩,
     by rw [← hW1]; have := World.alloc_heap_new (W0.alloc (.deferred (some []))) (.loop (AnyZ.apRec ρ fn (.func (.func g) #[] lb) w.heap.size W0.heap.size .ready none)); rwa [World.size_alloc] at this,
     by rw [← hW1]; exact (Below.heap_alloc _ _ _ (by simp)).trans (World.alloc_heap_new W0 _), hb1⟩
  refine ⟨W0.heap.size + 1, [{ target := .collected W0.heap.size, args := #[] }], W1, { target := .fn (.func g) lb, args := #[.func (.yield (W0.heap.size + 1)) #[] #[]] }, W1, g,
    #[.func (.yield (W0.heap.size + 1)) #[] #[]] ++ lb, W1, ?_, ?_, ?_, ?_, fun _ => h1, ?_⟩
  · rw [← hW1]; exact run_enterLoop_outer _ _ _ _ _
  · simp [resolve, go_sem]
  · intro f' hf'; simp [Target.leads] at hf'; subst hf'; exact hFg
  · simp [invoke, go_sem, eg]
  · refine (hseq (W0.heap.size + 1) (AnyZ.ApAt ρ w fn (.func (.func g) #[] lb) w.heap.size (W0.heap.size + 1) W0.heap.size) W1 hb1 (AnyZ.ap_abides ρ _ _ _ _ _ _ _ hb1.size) (fun pre W hJ => hJ.below)
      (fun pre x W hJ hl => AnyZ.apYield { L with } F (n - 1 - 1) w fn hfn _ w.heap.size (W0.heap.size + 1) W0.heap.size (by omega) (by omega) (by omega) (Nat.le_refl _) (by omega) N hN hNb pre x W hJ hl) hM).mono ?_
    rintro e W2 ⟨⟨v0, rfl⟩, ss, hS, h2⟩
    obtain ⟨v, hv, hrow, hnil⟩ := h2.box
    have hend := run_endLoop (P := P) h2.L (by simp [AnyZ.apRec])
    obtain ⟨W3, hW3⟩ : ∃ W3, W2.putObj (W0.heap.size + 1) (.loop { AnyZ.apRec ρ fn (.func (.func g) #[] lb) w.heap.size W0.heap.size .ready none with state := .exhausted }) = W3 := ⟨_, rfl⟩
    rw [hW3] at hend
    have hg3 : W2.grownBy W3 (some (W0.heap.size + 1)) := by rw [← hW3]; exact grownBy_putObj_a _ _ _
    have hv3 : W3.heap[w.heap.size]? = some (.cells #[v] (ρ.t 24) (0, 0)) := by rw [← hW3]; exact (World.putObj_heap_other (by omega)).trans hv
    have hK3 : W3.heap[W0.heap.size]? = some (.deferred (some [])) := by rw [← hW3]; exact (World.putObj_heap_other (by omega)).trans h2.K
    have hrow3 := hrow.kept hg3 (ownsRow_ne_a hrow h2.L (fun cur e => by first | cases e | exact hne (Obj.cells.inj e).2.1))
    have hb3 : Below w.heap.size w W3 := h2.below.grown hg3 h2.below.size (fun k e => by cases e; omega)
    obtain ⟨hc3, hf3⟩ := cell_of_box_a hv3
    clear hW3
    refine ⟨none, W3, hend, ?_⟩
    gi_wp2
    rw [← hs0]
    refine ⟨by simp, .inl ⟨_, _, rfl, run_takeDeferred hK3, ?_⟩⟩
    exact ⟨_, results_tmp rfl _ _ _, v, ss, rfl, hS, hrow3.kept (grownBy_putObj_a _ _ _) (ownsRow_ne_a hrow3 hK3 (fun cur e => by first | cases e | exact hne (Obj.cells.inj e).2.1)), hnil, hb3.grown (grownBy_putObj_a _ _ _) hb3.size (fun k e => by cases e; omega)⟩

set_option maxHeartbeats 1000000 in
theorem Sq.collect_b (L : SlLaysZ.n8 P ρ) (F : Fence) (n : Nat) (h8 : F.fn (ρ.f 8)) (h11 : F.fn (ρ.f 11)) (hro : F.round = none) (hn : 3 ≤ n) (g : Nat) (lb : Array Value) (hFg : F.fn g) (eg : ∀ args w, (callFunc g args).run P w = .ok (.enter g args) w)
    (S : List (List UInt8) → Prop) (N : Nat) (hN : N ≤ maxLen) (hNb : N * 16 ≤ 140737488355328) (w : World) (hseq : SeqB F (n - 1 - 1) P g lb encStr S N w) :
    CallsIn F n P (ρ.f 8) #[.func (.func g) #[] lb] w fun e w' => ∃ (v : Value) (ss : List (List UInt8)), e = .returned v ∧ S ss ∧ w'.ownsRow w.heap.size (ρ.t 26) 1 v ss.length (ss.map encStr) ∧ (v = .slice none 0 0 ↔ ss = []) ∧ Below w.heap.size w w' := by
  have h1 : 1 ≤ n := by omega
  have e11 : ∀ args w, (callFunc (ρ.f 11) args).run P w = .ok (.enter (ρ.f 11) args) w := L.f11.enters rfl
  have mixed := L.mixed; have t0 := L.t0; have a0 := L.a0; have z0 := L.z0; have v0 := L.v0; have t24 := L.t24; have a24 := L.a24; have z24 := L.z24; have v24 := L.v24; have t26 := L.t26; have a26 := L.a26; have z26 := L.z26; have v26 := L.v26; have t28 := L.t28; have a28 := L.a28; have z28 := L.z28; have v28 := L.v28
  have u0 := run_underlying L.t0; have u24 := run_underlying L.t24; have u26 := run_underlying L.t26; have u28 := run_underlying L.t28
  obtain ⟨_, _, FG⟩ := L.f8
  refine callsIn_of_wp FG rfl h8 ?_ hro
  simp only [SlBodyZ.n8_ntmps ρ, List.size_toArray, List.length_cons, List.length_nil, Nat.reduceAdd, Nat.reduceSub, Array.replicate_succ, Array.replicate_zero, List.push_toArray, List.append_toArray, List.nil_append, List.cons_append]
  gi_wp2_with (gi_at_fn (ρ.f 11); refine (Sq.appendSeq_b { L with } F (n - 1) h11 hro (by omega) g lb hFg eg S N hN hNb _ hseq).mono ?_; rintro e w' ⟨v, ss, rfl, hS, hrow, hnil, hb⟩)
  go_ret
  exact ⟨v, ss, rfl, hS, hrow, hnil, hb⟩

set_option maxRecDepth 100000 in
set_option maxHeartbeats 2000000 in
theorem Sq.sorted_b (L : SlLaysZ.n6 P ρ) (F : Fence) (n : Nat) (h6 : F.fn (ρ.f 6)) (h8 : F.fn (ρ.f 8)) (h9 : F.fn (ρ.f 9)) (h11 : F.fn (ρ.f 11)) (hro : F.round = none) (hn : 4 ≤ n) (hsort : AnyZ.SortsIn P ρ F (n - 1)) (e9 : ∀ args w, (callFunc (ρ.f 9) args).run P w = .ok (.enter (ρ.f 9) args) w) (g : Nat) (lb : Array Value) (hFg : F.fn g) (eg : ∀ args w, (callFunc g args).run P w = .ok (.enter g args) w)
    (S : List (List UInt8) → Prop) (N : Nat) (hN : N ≤ maxLen) (hNb : N * 16 ≤ 140737488355328) (w : World) (hseq : SeqB F (n - 1 - 1 - 1) P g lb encStr S N w) :
    CallsIn F n P (ρ.f 6) #[.func (.func g) #[] lb] w fun e w' => ∃ (v : Value) (ss : List (List UInt8)), e = .returned v ∧ S ss ∧
      w'.ownsRow w.heap.size (ρ.t 26) 1 v ss.length ((ss.mergeSort (fun x y => decide (x ≤ y))).map encStr) ∧ (v = .slice none 0 0 ↔ ss = []) ∧ Below w.heap.size w w' := by
  have h1 : 1 ≤ n := by omega
  have e8 : ∀ args w, (callFunc (ρ.f 8) args).run P w = .ok (.enter (ρ.f 8) args) w := L.f8.enters rfl
  have mixed := L.mixed; have t0 := L.t0; have a0 := L.a0; have z0 := L.z0; have v0 := L.v0; have t24 := L.t24; have a24 := L.a24; have z24 := L.z24; have v24 := L.v24; have t26 := L.t26; have a26 := L.a26; have z26 := L.z26; have v26 := L.v26; have t28 := L.t28; have a28 := L.a28; have z28 := L.z28; have v28 := L.v28
  have u0 := run_underlying L.t0; have u24 := run_underlying L.t24; have u26 := run_underlying L.t26; have u28 := run_underlying L.t28
  obtain ⟨_, _, FG⟩ := L.f6
  refine callsIn_of_wp FG rfl h6 ?_ hro
  simp only [SlBodyZ.n6_ntmps ρ, List.size_toArray, List.length_cons, List.length_nil, Nat.reduceAdd, Nat.reduceSub, Array.replicate_succ, Array.replicate_zero, List.push_toArray, List.append_toArray, List.nil_append, List.cons_append]
  gi_wp2_with (gi_at_fn (ρ.f 8); refine (Sq.collect_b { L with } F (n - 1) h8 h11 hro (by omega) g lb hFg eg _ N hN hNb _ hseq.upto).mono ?_; rintro e W ⟨v, ss, rfl, ⟨hS, hlen⟩, hrow, hnil, hb⟩)
  rcases hrow.2 with ⟨rfl, hz⟩ | ⟨gb, cap, cur, rfl, hbase, hgb, r1, r2, r3, r4⟩
  · -- nothing came: the nil slice is sorted and handed back
    have hss : ss = [] := List.eq_nil_of_length_eq_zero hz
    subst hss
    gi_wp2_with (gi_at_fn (ρ.f 9); refine (hsort.2 none 0 W).mono ?_; rintro e w' ⟨rfl, rfl⟩)
    go_ret
    exact ⟨.slice none 0 0, [], rfl, hS, by simpa using hrow, by simp, hb⟩
  · have hH : Holds encStr W gb 0 ss.toArray := holds_of_block hgb (by simpa using r4)
    have hgl : gb < W.heap.size := (Array.getElem?_eq_some_iff.1 hgb).1
    have hsz : ss.length < 4611686018427387904 := by omega
    have cS := hsort.1 gb 0 cap ss W hH hgl hsz
    gi_wp2_with (gi_at_fn (ρ.f 9); refine cS.mono ?_; rintro e w' ⟨rfl, nn, os, rfl⟩)
    go_ret
    exact ⟨_, ss, rfl, hS, ownsRow_sorted (by simp) hbase hgb r1 r2 r3, hnil, hb.grown (grownBy_sorted _) hb.size (fun j hj => by cases hj; exact hbase)⟩

end Go.Proofs

/- A contract whose row is new memory, told by its content; strings as cells. -/
set_option linter.unusedVariables false
set_option linter.unusedSimpArgs false
namespace Go.Abs
open Go Go.RowKit Go.Sort Go.Proofs Go.Maps

/-- Where nothing is own. -/
theorem Rel.start {w : World} {im : Im} (E : Env) (hG : GOK E im) (hok : ∀ (b o : Nat) (x : Value), im b o = some x → w.cell? ⟨b, o, none⟩ = some x) :
    Rel w ⟨im, [], E.dr⟩ ⟨[], [], im⟩ ⟨[], [], [], E.gl, none, []⟩ { tmps := #[], defers := [] } w :=
  ⟨⟨rfl, fun b o hb => by
      cases h : im b o with
      | none => exact h
      | some x => exact absurd (World.block_lt_of_cell? w ⟨b, o, none⟩ (hok b o x h)) (Nat.not_lt.2 hb)⟩, rfl, by simp, Below.refl _ _, .refl _, fun _ _ _ => rfl, hok, rfl, by simp, rfl, by simp, by simp, ⟨by simp, by simp, by simp⟩, fun g cs h => hG g cs h, ⟨rfl, by simp⟩, fun l d i h => by simp at h⟩
theorem ACalls.of_rel {E : Env} {f : FuncId} {args : List AV} {R : AV → List Nat → Prop}
    (h : ∀ (w : World) (im : Im) (vs : List Value), E.ok w → GOK E im → (∀ (b o : Nat) (x : Value), im b o = some x → w.cell? ⟨b, o, none⟩ = some x) → Pw0 im args vs → Calls E.P f vs.toArray w fun e w' => ∃ v, e = .returned v ∧
      ∃ c st a, Rel w ⟨im, [], E.dr⟩ c st a w' ∧ ∃ x, VR c x v ∧ ∃ sel y, selOK st.tk.length sel = true ∧ OutT sel x y ∧ R y (selLens st.tk sel)) : ACalls E f args R := by
  intro w im vs hE hG hok hpw
  refine (h w im vs hE hG hok hpw).mono ?_
  rintro e w' ⟨v, rfl, c', st', a, r', x, hv, sel, y, h3, h4, h5⟩
  refine ⟨v, y, selTk c' sel, c'.im, rfl, r'.below, r'.imle, r'.imold, r'.imok, selToks r' h3, outT_ok r' h3 hv h4, ?_⟩
  rw [selLens_eq r' h3]; exact h5
theorem cells_strs {im : Im} {l : List (List UInt8)} {cs : List Value} (h : cs.take l.length = l.map encStr) : Cells im 1 (l.map str) cs := by
  refine ⟨fun i e he => ?_, fun i e j c he hc => ?_⟩
  · rw [List.getElem?_map] at he
    cases hl : l[i]? with
    | none => simp [hl] at he
    | some b => simp only [hl, Option.map_some, Option.some.injEq] at he; subst he; rfl
  · rw [List.getElem?_map] at he
    cases hl : l[i]? with
    | none => simp [hl] at he
    | some b =>
      simp only [hl, Option.map_some, Option.some.injEq] at he; subst he
      have hlt : i < l.length := (List.getElem?_eq_some_iff.1 hl).1
      have h1 : (cs.take l.length)[i]? = cs[i]? := by rw [List.getElem?_take, if_pos hlt]
      cases j with
      | succ j => simp [AV.leaves] at hc
      | zero =>
        simp only [AV.leaves, List.getElem?_cons_zero, Option.some.injEq] at hc; subst hc
        refine ⟨encStr b, ?_, .v _, rfl⟩
        rw [Nat.mul_one, Nat.add_zero, ← h1, h]
        simp [hl]
/-- A row of strings in new memory. -/
theorem ACalls.of_strs {E : Env} {f : FuncId} {args : List AV} {l : List (List UInt8)} {ty : TypeId}
    (h : ∀ (w : World) (im : Im) (vs : List Value), E.ok w → GOK E im → (∀ (b o : Nat) (x : Value), im b o = some x → w.cell? ⟨b, o, none⟩ = some x) → Pw0 im args vs → Calls E.P f vs.toArray w fun e w' => ∃ v, e = .returned v ∧
      w'.ownsRow w.heap.size ty 1 v l.length (l.map encStr) ∧ Go.RowKit.Below w.heap.size w w') (hdr : ¬ E.dr := by exact fun h => h) : ACalls E f args (fun r t => r = .sl (some 0) 1 (l.map str) ∧ t = [l.length]) := by
  refine ACalls.of_rel fun w im vs hE hG hok hpw => (h w im vs hE hG hok hpw).mono ?_
  rintro e w' ⟨v, rfl, hrow, hb0⟩
  have hb : Below E.dr w.heap.size w w' := ⟨hb0, fun d => absurd d hdr⟩
  have r0 := Rel.start E hG hok
  refine ⟨v, rfl, ?_⟩
  rcases hrow.2 with ⟨rfl, hz⟩ | ⟨g, cap, cur, rfl, hbase, hg, h1, h2, h3, h4⟩
  · have hl : l = [] := List.eq_nil_of_length_eq_zero hz
    subst hl
    exact ⟨_, _, _, r0.ext hb, .nilS, .base .nilS, [(false, 1)], .sl (some 0) 1 [], rfl, rfl, rfl, rfl⟩
  · obtain ⟨c', hle, r1, hv⟩ := r0.newTok (k := 1) (cap := cap) (es := l.map str) (cs := cur) hb hbase hg (.inl rfl) (by rw [h3]; exact Nat.le_refl _) (by simpa using h1) (cells_strs (by simpa using h4))
    rw [List.length_map] at hv r1
    refine ⟨c', _, _, r1, _, hv, [(true, 0)], .sl (some 0) 1 (l.map str), rfl, ⟨rfl, rfl, rfl⟩, rfl, ?_⟩
    simp [selLens]
end Go.Abs

/- slices.Sort on an own row of strings. -/
set_option linter.unusedVariables false
set_option linter.unusedSimpArgs false
namespace Go.Abs
open Go Go.RowKit Go.Sort Go.Proofs Go.Maps

abbrev sortL (l : List (List UInt8)) : List (List UInt8) := l.mergeSort fun x y => decide (x ≤ y)
theorem sortL_len (l : List (List UInt8)) : (sortL l).length = l.length := List.length_mergeSort l
theorem heap_put {w : World} {g n : Nat} {os : Array Obj} {d : Array (List UInt8)} {cur : Array Value} {e : TypeId} {fz : Nat × Nat} (hb : w.heap[g]? = some (.cells cur e fz)) :
    (grow (putRow encStr (Sort.ahead w n) g 0 d) os).heap[g]? = some (.cells (putCells encStr 0 d cur) e fz) := by
  have hlt := (Array.getElem?_eq_some_iff.1 hb).1
  rw [heap_grow_old _ _ (by simpa using hlt)]
  simp [putRow, mapBlock, Sort.ahead, Array.getElem?_modify, hb, onCells]
theorem below_sorted {w : World} {B g n : Nat} {os : Array Obj} (d : Array (List UInt8)) {w0 : World} {D : Prop} (h : Below D B w0 w) (hg : B ≤ g) (hB : B ≤ w.heap.size) : Below D B w0 (grow (putRow encStr (Sort.ahead w n) g 0 d) os) :=
  h.grown (grownBy_sorted d) hB (fun j hj => by cases hj; exact hg) (Nat.le_add_right _ _)
theorem AWPL.sortS {E : Env} {Q : Exit → St → Prop} {st : St} {ops : Array Oper} {rest : List Oper} {g : FuncId} {dst : Option Tmp} {f x : Operand} {tys : Array TypeId} {ty : TypeId} {pos : String} {after : Array Edge}
    (hc : callable E.P g = true) (he : st.ev f = .fn g [])
    (hsort : ∀ (blk off cap : Nat) (ss : List (List UInt8)) (w : World), Holds encStr w blk off ss.toArray → blk < w.heap.size → ss.length < 4611686018427387904 →
      Calls E.P g #[.slice (some ⟨blk, off, none⟩) ss.length cap] w fun e w' => e = .returned (.tuple #[]) ∧ ∃ n os, w' = grow (putRow encStr (Sort.ahead w n) blk off (ss.mergeSort fun x y => decide (x ≤ y)).toArray) os)
    (hnone : ∀ (p : Option Addr) (cap : Nat) (w : World), Calls E.P g #[.slice p 0 cap] w fun e w' => e = .returned (.tuple #[]) ∧ w' = w)
    {id cap : Nat} {l : List (List UInt8)} {sp : List AV} (hx : st.ev x = .mu id 1 0 l.length cap) (ho : st.own[id]? = some (some (l.map str ++ sp))) (hsz : l.length ≤ 1000000)
    (h : AWPL E ops rest Q (St.put { st with own := st.own.set id (some ((sortL l).map str ++ sp)) } dst (.tup []))) :
    AWPL E ops (⟨dst, .call ⟨.value f, #[x], tys⟩, ty, pos, after, none⟩ :: rest) Q st := by
  refine AWPL.callRaw hc he fun w0 im0 cx a w vs h0 hG r hpw => ?_
  obtain ⟨hn, hp⟩ := hpw
  obtain ⟨v, rfl⟩ : ∃ v, vs = [v] := by
    match vs, hn with
    | [v], _ => exact ⟨v, rfl⟩
  have hv : VR cx (.mu id 1 0 l.length cap) v := by
    have := hp 0 _ v rfl rfl
    rwa [← hx]
  have same : l = [] → { st with own := st.own.set id (some ((sortL l).map str ++ sp)) } = st := fun e => by
    subst e
    have e1 : st.own.set id (some ((sortL []).map str ++ sp)) = st.own := by
      apply List.ext_getElem?
      intro j
      rw [List.getElem?_set]
      split
      · rename_i hj; subst hj
        rw [if_pos (lt_of_get ho), ho]; simp [sortL]
      · rfl
    rw [e1]
  rcases hv.inv_mu with ⟨b, hb, hcap, rfl⟩ | ⟨hl, rfl, rfl⟩
  · rcases Nat.eq_zero_or_pos l.length with hz | hz
    · have hl : l = [] := List.eq_nil_of_length_eq_zero hz
      subst hl
      refine (hnone _ cap w).mono ?_
      rintro e w' ⟨rfl, rfl⟩
      exact ⟨_, rfl, cx, st, .tup [], r, .tup [] [] rfl (by simp), by rw [same rfl] at h; exact h⟩
    · have hOK := r.own id b 1 _ hb ho
      obtain ⟨cs, te, lo, hi, hblk, hfr, hsize, hlv, hcell⟩ := hOK.blk
      have hget : ∀ j, j < l.length → cs[j]? = some (encStr l[j]!) := fun j hj => by
        have e1 : (l.map str ++ sp)[j]? = some (str l[j]!) := by
          rw [List.getElem?_append_left (by simpa using hj)]
          simp [hj]
        obtain ⟨v, hv, hvr, _⟩ := hcell j _ 0 _ e1 rfl
        rw [hvr.inv_v] at hv
        simpa using hv
      have hH : Holds encStr w b 0 l.toArray := fun j hj => by
        have hj' : j < l.length := by simpa using hj
        have e2 := hget j hj'
        have hlt : j < cs.size := (Array.getElem?_eq_some_iff.1 e2).1
        constructor
        · simp only [World.cell?, hblk, Nat.zero_add, e2]
          try simp [hj']
        · simp only [World.frozen?, hblk, Nat.zero_add]
          rcases hfr with rfl | hfr
          · first | (simp; done) | (simp; omega)
          · first | (simp; done) | (simp; omega)
      have hbs : b < w.heap.size := r.own_lt hb ho
      rw [Nat.zero_mul]
      refine (hsort b 0 cap l w hH hbs (by omega)).mono ?_
      rintro e w' ⟨rfl, n, os, rfl⟩
      refine ⟨_, rfl, cx, { st with own := st.own.set id (some ((sortL l).map str ++ sp)) }, .tup [], ?_, .tup [] [] rfl (by simp), h⟩
      -- the block's content turns; then new blocks come
      obtain ⟨w1, hw1⟩ : ∃ w1, putRow encStr (Sort.ahead w n) b 0 (l.mergeSort fun x y => decide (x ≤ y)).toArray = w1 := ⟨_, rfl⟩
      have hw1' : grow w1 #[] = w1 := grow_empty w1
      have hsz1 : w1.heap.size = w.heap.size := by rw [← hw1]; simp [putRow, mapBlock, Sort.ahead]
      have r1 : Rel w0 im0 cx { st with own := st.own.set id (some ((sortL l).map str ++ sp)) } a w1 := by
        refine r.setOwn hb ho (fun d hd => ?_) ?_ ?_
        · rw [← hw1]
          simp [putRow, mapBlock, Sort.ahead, Array.getElem?_modify, Ne.symm hd]
        · rw [← hw1', ← hw1]
          exact below_sorted _ r.below hOK.new r.below.size
        · refine ⟨_, te, lo, hi, (by rw [← hw1', ← hw1]; exact heap_put hblk), ?_, ?_, ?_, ?_⟩
          · simpa [putCells] using hfr
          · simp only [List.length_append, List.length_map, sortL_len] at hsize ⊢
            simpa [putCells] using hsize
          · intro i e he
            rcases getElem?_app' _ _ _ _ he with ⟨h1, h2⟩ | ⟨h1, h2⟩
            · rw [List.getElem?_map] at h2
              cases hq : (sortL l)[i]? with
              | none => simp [hq] at h2
              | some z => simp only [hq, Option.map_some, Option.some.injEq] at h2; subst h2; rfl
            · refine hlv i e ?_
              rw [List.length_map, sortL_len] at h1 h2
              rw [List.getElem?_append_right (by rw [List.length_map]; exact h1), List.length_map]; exact h2
          · intro i e j y he hy
            rcases getElem?_app' _ _ _ _ he with ⟨h1, h2⟩ | ⟨h1, h2⟩
            · rw [List.length_map, sortL_len] at h1
              rw [List.getElem?_map] at h2
              cases hq : (sortL l)[i]? with
              | none => simp [hq] at h2
              | some z =>
                simp only [hq, Option.map_some, Option.some.injEq] at h2; subst h2
                cases j with
                | succ j => simp [AV.leaves] at hy
                | zero =>
                  simp only [AV.leaves, List.getElem?_cons_zero, Option.some.injEq] at hy; subst hy
                  have hlt : i < cs.size := (Array.getElem?_eq_some_iff.1 (hget i h1)).1
                  refine ⟨encStr z, ?_, .base (.v _), .inr rfl⟩
                  rw [Nat.mul_one, Nat.add_zero]
                  have hz2 : (l.mergeSort fun x y => decide (x ≤ y))[i]? = some z := hq
                  have hi2 := lt_of_get hz2
                  simp only [putCells, Array.getElem?_mapIdx, Array.getElem?_eq_getElem hlt, Option.map_some]
                  rw [if_pos ⟨Nat.zero_le _, by simpa using hi2⟩]
                  simp [hz2]
            · have h3 : (l.map str ++ sp)[i]? = some e := by
                rw [List.length_map, sortL_len] at h1 h2
                rw [List.getElem?_append_right (by rw [List.length_map]; exact h1), List.length_map]; exact h2
              obtain ⟨v, hv, hvr, hv1⟩ := hcell i e j y h3 hy
              refine ⟨v, ?_, hvr, hv1⟩
              rw [List.length_map, sortL_len] at h1
              have hlt := (Array.getElem?_eq_some_iff.1 hv).1
              simp only [putCells, Array.getElem?_mapIdx, Array.getElem?_eq_getElem hlt, Option.map_some]
              have hns : ¬ (0 ≤ i * 1 + j ∧ i * 1 + j < 0 + (l.mergeSort fun x y => decide (x ≤ y)).toArray.size) := by
                have : (l.mergeSort fun x y => decide (x ≤ y)).length = l.length := List.length_mergeSort l
                simp only [List.size_toArray, this]; omega
              rw [if_neg hns]
              rw [Array.getElem?_eq_getElem hlt] at hv; exact hv
      rw [hw1]
      exact r1.ext (w' := grow w1 os) ((Below.refl _ w1).grown (w' := grow w1 os) (row := none) ⟨rfl, rfl, rfl, by simp [grow], fun k hk _ => heap_grow_old _ _ hk⟩ (Nat.le_refl _) (fun j hj => by cases hj) (Nat.le_refl _))
  · have hl : l = [] := List.eq_nil_of_length_eq_zero hl
    subst hl
    refine (hnone _ 0 w).mono ?_
    rintro e w' ⟨rfl, rfl⟩
    exact ⟨_, rfl, cx, st, .tup [], r, .tup [] [] rfl (by simp), by rw [same rfl] at h; exact h⟩
end Go.Abs
end
section
/- slices.Sorted at what slices.Values hands back: a new row of the same strings, sorted. -/
namespace Go.Proofs
open Go.RowKit Go.Shelf Go.Sort
set_option linter.unusedVariables false
set_option linter.unusedSimpArgs false
attribute [local go_sem] Oper.semAt_some

theorem Tryz.upto_all (zs : List (List UInt8)) : (List.range zs.length).map (fun j => zs[j]?.getD []) = zs := by
  apply List.ext_getElem
  · simp
  · intro i h1 h2
    simp [h2]
theorem Tryz.upto_succ {α : Type} (f : Nat → α) (k : Nat) : (List.range (k + 1)).map f = (List.range k).map f ++ [f k] := by simp [List.range_succ]

set_option maxRecDepth 100000 in
set_option maxHeartbeats 2000000 in
theorem Tryz.values1_in (F : Fence) (n : Nat) (h7 : F.fn 165) (hro : F.round = none) (hn : 1 ≤ n) (l Bs bo b off len cap : Nat) (zs : List (List UInt8)) (hreach : len * 16 ≤ 140737488351232) (w : World) (hb : b < w.heap.size) (J : List (List UInt8) → World → Prop) (hJB : ∀ pre W1, J pre W1 → Below w.heap.size w W1)
    (hY : ∀ pre x W, J pre W → pre.length < len → YieldAt F (n - 1) Tryz.prog l #[encStr x] W fun e W' => e = .returned (.bool true) ∧ J (pre ++ [x]) W' ∧ KeepsWalks W W')
    (W : World) (hBs : W.cell? ⟨Bs, bo, none⟩ = some (.slice (some ⟨b, off, none⟩) len cap)) (hc : ∀ j, j < len → w.cell? ⟨b, off + j, none⟩ = some (encStr (zs[j]?.getD []))) (h0 : J [] W) :
    CallsIn F n Tryz.prog 165 #[.func (.yield l) #[] #[], .pointer (some ⟨Bs, bo, none⟩)] W fun e W' => (∃ v, e = .returned v) ∧ J ((List.range len).map fun j => zs[j]?.getD []) W' := by
  refine callsIn_of_wp Tryz.func165 rfl h7 ?_ hro
  simp only [Tryz.ntmps165, List.size_toArray, List.length_cons, List.length_nil, Nat.reduceAdd, Nat.reduceSub, Array.replicate_succ, Array.replicate_zero, List.push_toArray, List.append_toArray, List.nil_append, List.cons_append]
  gi_wp2
  gi_loopw [7] (fun i wr => ∃ k : Nat, k ≤ len ∧ i = .int .i64 k ∧ J ((List.range k).map fun j => zs[j]?.getD []) wr)
    (fun i _ => len - (intOf i).toNat)
  case atStart => exact ⟨0, Nat.zero_le _, rfl, h0⟩
  case round =>
    obtain ⟨k, hk, rfl, hJs⟩ := hrel
    have hcx : k < len → wr.cell? ⟨b, off + k, none⟩ = some (encStr (zs[k]?.getD [])) := fun h => ((hJB _ _ hJs).cell (p := ⟨b, off + k, none⟩) hb).trans (hc k h)
    by_cases hlt : k < len
    · obtain ⟨fn, tmps, assign, body, hy, hR⟩ := hY _ (zs[k]?.getD []) wr hJs (by simpa using hlt)
      have hcx' := hcx hlt
      dsimp only [encStr] at hy hcx'
      gi_wp2
      refine hR.mono ?_
      rintro e W3 ⟨rfl, hJ3, hk3⟩
      gi_wp2
      go_roundw
      case rel => exact ⟨k + 1, by omega, by simp, by rw [Tryz.upto_succ]; exact hJ3⟩
      case measure => simp [intOf]; omega
    · obtain rfl : k = len := by omega
      gi_wp2
      go_end0
      exact ⟨⟨_, rfl⟩, hJs⟩

set_option maxRecDepth 100000 in
set_option maxHeartbeats 1000000 in
theorem Tryz.values1_none (F : Fence) (n : Nat) (h7 : F.fn 165) (hro : F.round = none) (l Bs bo cap : Nat) (a : Option Addr) (J : List (List UInt8) → World → Prop) (W : World) (hBs : W.cell? ⟨Bs, bo, none⟩ = some (.slice a 0 cap)) (h0 : J [] W) :
    CallsIn F n Tryz.prog 165 #[.func (.yield l) #[] #[], .pointer (some ⟨Bs, bo, none⟩)] W fun e W' => (∃ v, e = .returned v) ∧ J [] W' := by
  refine callsIn_of_wp Tryz.func165 rfl h7 ?_ hro
  simp only [Tryz.ntmps165, List.size_toArray, List.length_cons, List.length_nil, Nat.reduceAdd, Nat.reduceSub, Array.replicate_succ, Array.replicate_zero, List.push_toArray, List.append_toArray, List.nil_append, List.cons_append]
  gi_wp2
  gi_loopw [7] (fun i wr => i = .int .i64 0 ∧ J [] wr) (fun _ _ => 0)
  case atStart => exact ⟨rfl, h0⟩
  case round =>
    obtain ⟨rfl, hJs⟩ := hrel
    gi_wp2
    go_end0
    exact ⟨⟨_, rfl⟩, hJs⟩
theorem Tryz.sorts103 (m : Nat) : AnyZ.SortsIn Tryz.prog Tryz.sorted98_ren Fence.wide m :=
  ⟨fun blk off cap ss W hH hblk hsz => callsIn_wide.2 (AnyM.slices_Sort_string Tryz.sort50 blk off cap ss W hH hblk hsz),
   fun p cap W => callsIn_wide.2 (AnyM.slices_Sort_string_none Tryz.sort50 p cap W)⟩
end Go.Proofs
namespace Go.Proofs.YtajeeghgiilhiaaGreat
open Go Go.Abs Go.RowKit Go.Bk Go.Sort Go.Shelf
abbrev sortL (l : List Bs) : List Bs := l.mergeSort fun x y => decide (x ≤ y)
theorem sorted_c (l : List Bs) (hl : l.length ≤ 1000000) : ACalls E 98 [.fn 165 [.rptr [.sl none 1 (l.map str)]]] (fun r t => r = .sl (some 0) 1 ((sortL l).map str) ∧ t = [(sortL l).length]) := by
  refine ACalls.of_strs (ty := Tryz.sorted98_ren.t 26) fun w im vs hE hG hok hpw => ?_
  obtain ⟨hn, hp⟩ := hpw
  obtain ⟨v, rfl⟩ : ∃ v, vs = [v] := by
    match vs, hn with
    | [v], _ => exact ⟨v, rfl⟩
  obtain ⟨us, rfl, hn2, hp2⟩ := (VR.base (c := ⟨[], [], im⟩) (hp 0 _ v rfl rfl)).inv_fn
  obtain ⟨u, rfl⟩ : ∃ u, us = [u] := by
    match us, hn2 with
    | [u], _ => exact ⟨u, rfl⟩
  obtain ⟨Bs, bo, rfl, cv, h1, h2, h3⟩ := (hp2 0 _ u rfl rfl).inv_rptr
  have hc := hok _ _ _ (h1 0 _ rfl)
  have hs := h3 0 _ rfl
  have hBs := World.block_lt_of_cell? w _ hc
  have hbase : ∃ S : List (List UInt8) → Prop, (∀ ss, S ss → ss = l) ∧ SeqB Fence.wide 2 Tryz.prog 165 #[.pointer (some ⟨Bs, bo, none⟩)] encStr S l.length w := by
    obtain ⟨a, cap, hcv, hcap, hd⟩ := hs.inv_sl
    rw [List.length_map] at hcv
    refine ⟨fun ss => ss = l, fun _ h => h, fun lp J W hW hJ hB hY h0 => ?_⟩
    have hc' := (hW.cell (p := ⟨Bs, bo, none⟩) hBs).trans hc
    rw [hcv] at hc'
    rcases hd with hd | ⟨b, o, rfl, hk, cw, g1, g2, g3⟩
    · have : l = [] := by simpa using hd
      subst this
      exact (Tryz.values1_none Fence.wide 2 trivial rfl lp Bs bo cap a J W hc' h0).mono fun e W' ⟨he, hj⟩ => ⟨he, [], rfl, hj⟩
    · have hcell : ∀ j, j < l.length → w.cell? ⟨b, o + j, none⟩ = some (encStr (l[j]?.getD [])) := fun j hj => by
        have e1 : (l.map str)[j]? = some (str (l[j]?.getD [])) := by simp [hj]
        have e2 := g1 j _ 0 _ e1 rfl
        have e3 := g3 j _ 0 _ e1 rfl
        have e5 := (VR.base (c := ⟨[], [], im⟩) e3).inv_v
        have e4 := hok _ _ _ e2
        rw [e5] at e4
        simpa using e4
      rcases Nat.eq_zero_or_pos l.length with hz | hz
      · have : l = [] := List.eq_nil_of_length_eq_zero hz
        subst this
        exact (Tryz.values1_none Fence.wide 2 trivial rfl lp Bs bo cap _ J W hc' h0).mono fun e W' ⟨he, hj⟩ => ⟨he, [], rfl, hj⟩
      · have hb := World.block_lt_of_cell? w _ (hcell 0 hz)
        refine (Tryz.values1_in Fence.wide 2 trivial rfl (by omega) lp Bs bo b o l.length cap l (by omega) w hb J hB hY W hc' hcell h0).mono ?_
        rintro e W' ⟨he, hj⟩
        rw [Tryz.upto_all] at hj
        exact ⟨he, l, rfl, hj⟩
  obtain ⟨S, hS, hseq⟩ := hbase
  refine (callsIn_wide.1 (Sq.sorted_b Tryz.sorted98 Fence.wide 5 trivial trivial trivial trivial rfl (by omega) (Tryz.sorts103 _) (enters_of Tryz.func103 (by kernel_rfl) rfl) 165 #[.pointer (some ⟨Bs, bo, none⟩)] trivial (enters_of Tryz.func165 (by kernel_rfl) rfl) S l.length (by simp [maxLen]; omega) (by omega) w hseq)).mono ?_
  rintro e w' ⟨v, ss, rfl, hss, hrow, _, hbl⟩
  obtain rfl := hS ss hss
  refine ⟨v, rfl, ?_, hbl⟩
  simpa [sortL] using hrow
end Go.Proofs.YtajeeghgiilhiaaGreat
end
section
set_option linter.unusedVariables false
set_option linter.unusedSimpArgs false
namespace Go.Proofs.YtajeeghgiilhiaaGreat
open Go Go.Abs Go.RowKit Go.Bk
end Go.Proofs.YtajeeghgiilhiaaGreat
end
section
set_option linter.unusedVariables false
set_option linter.unusedSimpArgs false
namespace Go.Proofs.YtajeeghgiilhiaaGreat
open Go Go.Abs Go.RowKit Go.Bk
theorem twice_next {l : List Bs} {i : Nat} {p b : Bs} (hp : l[i]? = some p) (hb : l[i + 1]? = some b) (h : ¬ b = p) : twiceB (l.drop (i + 1)) = twiceB (l.drop i) := by
  rw [drop_of hp, drop_of hb]; simp [twiceB, h]
theorem twice_yes {l : List Bs} {i : Nat} {p b : Bs} (hp : l[i]? = some p) (hb : l[i + 1]? = some b) (h : b = p) : twiceB (l.drop i) = true := by
  rw [drop_of hp, drop_of hb]; simp [twiceB, h]
theorem twice_end {l : List Bs} {i : Nat} (h : l.length ≤ i + 1) : twiceB (l.drop i) = false := by
  cases hd : l.drop i with
  | nil => rfl
  | cons x m =>
    have := congrArg List.length hd
    rw [List.length_drop, List.length_cons] at this
    have : m = [] := List.eq_nil_of_length_eq_zero (by omega)
    subst this; rfl
theorem half_eq {i j : Nat} (h1 : i ≤ 1000000) (h2 : j ≤ 1000000) : IntKind.i64.wrap ((IntKind.u64.wrap (IntKind.i64.wrap ((i : Int) + j))).fdiv (2 ^ (min 1 64))) = (((i + j) / 2 : Nat) : Int) := by
  have e0 : IntKind.i64.wrap ((i : Int) + j) = (i : Int) + j := wrap64_id (by omega) (by omega)
  have e1 : IntKind.u64.wrap ((i : Int) + j) = ((i : Int) + j) := by
    simp only [IntKind.wrap, IntKind.bits, IntKind.signed]
    have : ((i : Int) + j) % 2 ^ 64 = ((i : Int) + j) := by omega
    simp only [this]; simp
  rw [e0, e1, show (2 : Int) ^ (min 1 64) = 2 by decide, Int.fdiv_eq_ediv_of_nonneg _ (by omega)]
  rw [wrap64_id (by omega) (by omega)]; omega
theorem lows {l : List Bs} {x y : Bs} {i m : Nat} (hs : l.Pairwise (fun a b => a ≤ b)) (h3 : ∀ k y, k < i → l[k]? = some y → y < x) (hb : l[m]? = some y) (h : y < x) : ∀ k y, k < m + 1 → l[k]? = some y → y < x := by
  intro k z hk hz
  rcases Nat.lt_or_ge k m with h' | h'
  · obtain ⟨hk1, rfl⟩ := List.getElem?_eq_some_iff.1 hz
    obtain ⟨hm1, rfl⟩ := List.getElem?_eq_some_iff.1 hb
    exact List.lt_of_le_of_lt (List.pairwise_iff_getElem.1 hs k m hk1 hm1 h') h
  · have : k = m := by omega
    subst this
    rw [hb] at hz; cases hz; exact h
theorem highs {l : List Bs} {x y : Bs} {j m : Nat} (hs : l.Pairwise (fun a b => a ≤ b)) (h4 : ∀ k y, j ≤ k → l[k]? = some y → ¬ y < x) (hb : l[m]? = some y) (h : ¬ y < x) : ∀ k y, m ≤ k → l[k]? = some y → ¬ y < x := by
  intro k z hk hz hc
  rcases Nat.lt_or_ge m k with h' | h'
  · obtain ⟨hk1, rfl⟩ := List.getElem?_eq_some_iff.1 hz
    obtain ⟨hm1, rfl⟩ := List.getElem?_eq_some_iff.1 hb
    exact h (List.lt_of_le_of_lt (List.pairwise_iff_getElem.1 hs m k hm1 hk1 h') hc)
  · have : k = m := by omega
    subst this
    rw [hb] at hz; cases hz; exact h hc
theorem found_yes {l : List Bs} {x y : Bs} {i : Nat} (h3 : ∀ k y, k < i → l[k]? = some y → y < x) (h4 : ∀ k y, i ≤ k → l[k]? = some y → ¬ y < x) (hs : l.Pairwise (fun a b => a ≤ b)) (hb : l[i]? = some y) : decide (x ∈ l) = decide (y = x) := by
  by_cases h : y = x
  · subst h; simp [List.mem_of_getElem? hb]
  · have : ¬ x ∈ l := fun hm => by
      obtain ⟨k, hk⟩ := List.mem_iff_getElem?.1 hm
      rcases Nat.lt_trichotomy k i with h' | h' | h'
      · exact List.lt_irrefl x (h3 k x h' hk)
      · subst h'; rw [hk] at hb; cases hb; exact h rfl
      · obtain ⟨hk1, e1⟩ := List.getElem?_eq_some_iff.1 hk
        obtain ⟨hm1, e2⟩ := List.getElem?_eq_some_iff.1 hb
        have := List.pairwise_iff_getElem.1 hs i k hm1 hk1 h'
        rw [e1, e2] at this
        have h5 := h4 i y (Nat.le_refl _) hb
        exact h (List.le_antisymm this (List.not_lt.1 h5))
    simp [this, h]
theorem found_no {l : List Bs} {x : Bs} {i : Nat} (hi : l.length ≤ i) (h3 : ∀ k y, k < i → l[k]? = some y → y < x) : decide (x ∈ l) = false := by
  simp only [decide_eq_false_iff_not]
  intro hm
  obtain ⟨k, hk⟩ := List.mem_iff_getElem?.1 hm
  exact List.lt_irrefl x (h3 k x (by have := get_lt hk; omega) hk)

set_option maxHeartbeats 4000000 in
set_option maxRecDepth 8000 in
theorem twice_c (l : List Bs) (hl : l.length ≤ 9223372036854775807) : ACalls E 100 [.sl none 1 (l.map str)] (fun r t => r = bl (twiceB l) ∧ t = []) := by -- checkroll/book.twice
  refine ACalls.of_awp (n := 20) (rs := [.tmp 2]) Tryz.func100 rfl Tryz.ntmps100 rfl ?_
  repeat' (first
    | refine AWP.seqk fun K hK => ?_
    | (
        refine AWP.here 4 10 10 rfl ?_
        have hlt : i + 1 < l.length := by omega
        obtain ⟨p, hp⟩ : ∃ p, l[i]? = some p := ⟨_, List.getElem?_eq_getElem (by omega)⟩
        refine AWP.regionO [0, 1, 2, 3, 4, 5, 6, 7, 8, 9] [] (by kernel_rfl) (by kernel_rfl) rfl ?_; simp only [go_sem, hw, hp]
        refine AGet.nth hlt (fun b hb => ?_)
        simp only [hb, go_sem, hw, hp])
    | (refine AWP.region ?_; simp only [go_sem])
    | (refine AWP.here 4 10 10 rfl ?_; refine AWP.regionO [0, 1, 2, 3, 4, 5, 6, 7, 8, 9] [] (by kernel_rfl) (by kernel_rfl) rfl ?_; simp only [go_sem])
    | (refine hK _ ?_; clear hK K)
    | refine AWP.block ?_
    | refine AWP.cond rfl (fun c => ?_) (fun c => ?_) <;> first | exact Bool.noConfusion c | (try simp only [dD] at c)
    | refine AWP.skip ?_
    | (refine AWP.exit ?_; simp only [go_sem])
    | (refine AGet.haveM (by assumption) ?_; (try simp only [go_sem]))
    | (refine AGet.have' (by assumption) ?_; (try simp only [go_sem]))
    | ((first | refine AGet.nth ?_ (fun b hb => ?_) | refine AGet.nth1 ?_ (fun b hb => ?_) | with_reducible refine And.intro ?_ ?_); (focus (first | omega | assumption | exact List.length_pos_iff.2 (by assumption) | (simp only [List.length_append, List.length_cons, List.length_nil, List.length_map, List.length_take, List.length_drop] at *; omega) | (rw [wrap64_id (by omega) (by omega)]; omega) | (simp; done) | (simp [spare_len]; done) | (exact ⟨by omega, by omega⟩))); (try simp only [hb, go_sem]))
    | (
        refine AWP.here 2 4 4 rfl ?_
        refine AWP.loopN (ι := Nat) [2, 4, 5, 6, 7, 8, 9, 10, 11, 12, 13, 14, 15, 16, 17, 18, 19] (fun (i : Nat) => [(3, i64 (i + 1 : Nat))]) (fun (i : Nat) => i ≤ l.length ∧ twiceB (l.drop i) = twiceB l) (fun (i : Nat) => l.length - i) (0) ?_ ?_ ?_
        · (try simp only [go_sem]); (repeat' (first | refine And.intro ?_ ?_ | exact .inl rfl | exact .inr rfl | exact .inr ⟨rfl, rfl⟩ | trivial | (simp; done)))
        · exact ⟨by omega, rfl⟩
        rintro i ⟨h1, h2⟩
        simp only [go_sem]
        have hw : (IntKind.i64.wrap (((i + 1 : Nat) : Int) - 1)) = (i : Int) := by rw [wrap64_id (by omega) (by omega)]; omega)
    | (
        refine ⟨i + 1, ?_, ?_, ?_⟩
        · (try simp only [go_sem]); (try rw [wrap64_id (by omega) (by omega)]); (first | (simp; omega) | (simp; done))
        · exact ⟨by omega, by rw [← h2]; exact twice_next hp hb (by assumption)⟩
        · (try simp only []); omega)
    | (
        refine AWP.ret ?_
        refine AEnd.is ?_; simp only [go_sem, out_v, out_s, out_n, v_int, v_bool, v_str] <;> (first
        | (rw [← h2, twice_yes hp hb (by assumption)]; done)
        | (rw [← h2, twice_end (by omega)]; done)))
    | refine AWP.fin (by assumption) ?_)

set_option maxHeartbeats 4000000 in
set_option maxRecDepth 8000 in
theorem snan_c (s : Bs) : ACalls E 167 [str s] (fun r t => r = bl false ∧ t = []) := by -- slices.isNaN[string]
  refine ACalls.of_awp (n := 6) (rs := [.tmp 2]) Tryz.func167 rfl Tryz.ntmps167 rfl ?_
  repeat' (first
    | refine AWP.seqk fun K hK => ?_
    | (refine AWP.region ?_; simp only [go_sem])
    | (refine hK _ ?_; clear hK K)
    | refine AWP.block ?_
    | refine AWP.cond rfl (fun c => ?_) (fun c => ?_) <;> first | exact Bool.noConfusion c | (try simp only [dD] at c)
    | refine AWP.skip ?_
    | (refine AWP.exit ?_; simp only [go_sem])
    | (refine AGet.haveM (by assumption) ?_; (try simp only [go_sem]))
    | (refine AGet.have' (by assumption) ?_; (try simp only [go_sem]))
    | ((first | refine AGet.nth ?_ (fun b hb => ?_) | refine AGet.nth1 ?_ (fun b hb => ?_) | with_reducible refine And.intro ?_ ?_); (focus (first | omega | assumption | exact List.length_pos_iff.2 (by assumption) | (simp only [List.length_append, List.length_cons, List.length_nil, List.length_map, List.length_take, List.length_drop] at *; omega) | (rw [wrap64_id (by omega) (by omega)]; omega) | (simp; done) | (simp [spare_len]; done) | (exact ⟨by omega, by omega⟩))); (try simp only [hb, go_sem]))
    | (
        refine AWP.ret ?_
        refine AEnd.is ?_; simp only [go_sem, out_v, out_s, out_n, v_int, v_bool, v_str] <;> (simp; done))
    | refine AWP.fin (by assumption) ?_)

set_option maxHeartbeats 4000000 in
set_option maxRecDepth 8000 in
theorem cnan_c (s : Bs) : ACalls E 183 [str s] (fun r t => r = bl false ∧ t = []) := by -- cmp.isNaN[string]
  refine ACalls.of_awp (n := 6) (rs := [.tmp 2]) Tryz.func183 rfl Tryz.ntmps183 rfl ?_
  repeat' (first
    | refine AWP.seqk fun K hK => ?_
    | (refine AWP.region ?_; simp only [go_sem])
    | (refine hK _ ?_; clear hK K)
    | refine AWP.block ?_
    | refine AWP.cond rfl (fun c => ?_) (fun c => ?_) <;> first | exact Bool.noConfusion c | (try simp only [dD] at c)
    | refine AWP.skip ?_
    | (refine AWP.exit ?_; simp only [go_sem])
    | (refine AGet.haveM (by assumption) ?_; (try simp only [go_sem]))
    | (refine AGet.have' (by assumption) ?_; (try simp only [go_sem]))
    | ((first | refine AGet.nth ?_ (fun b hb => ?_) | refine AGet.nth1 ?_ (fun b hb => ?_) | with_reducible refine And.intro ?_ ?_); (focus (first | omega | assumption | exact List.length_pos_iff.2 (by assumption) | (simp only [List.length_append, List.length_cons, List.length_nil, List.length_map, List.length_take, List.length_drop] at *; omega) | (rw [wrap64_id (by omega) (by omega)]; omega) | (simp; done) | (simp [spare_len]; done) | (exact ⟨by omega, by omega⟩))); (try simp only [hb, go_sem]))
    | (
        refine AWP.ret ?_
        refine AEnd.is ?_; simp only [go_sem, out_v, out_s, out_n, v_int, v_bool, v_str] <;> (simp; done))
    | refine AWP.fin (by assumption) ?_)

set_option maxHeartbeats 4000000 in
set_option maxRecDepth 8000 in
theorem cless_c (s u : Bs) : ACalls E 166 [str s, str u] (fun r t => r = bl (decide (s < u)) ∧ t = []) := by -- cmp.Less[string]
  refine ACalls.of_awp (n := 17) (rs := [.tmp 4]) Tryz.func166 rfl Tryz.ntmps166 rfl ?_
  repeat' (first
    | refine AWP.seqk fun K hK => ?_
    | (refine AWP.region ?_; simp only [go_sem, Go.Proofs.bytesLess_eq])
    | (refine hK _ ?_; clear hK K)
    | refine AWP.block ?_
    | refine AWP.cond rfl (fun c => ?_) (fun c => ?_) <;> first | exact Bool.noConfusion c | (try simp only [dD] at c)
    | refine AWP.skip ?_
    | (refine AWP.exit ?_; simp only [go_sem, Go.Proofs.bytesLess_eq])
    | (refine ACall.one (cnan_c _) (by kernel_rfl) rfl ?_; simp only [go_sem, Go.Proofs.bytesLess_eq])
    | (refine AGuard.splitN (fun h => ?_) (fun h => ?_) <;> simp only [h, go_sem, Go.Proofs.bytesLess_eq] <;> (try simp only [dD] at h))
    | (refine AGuard.split (fun h => ?_) (fun h => ?_) <;> simp only [h, go_sem, Go.Proofs.bytesLess_eq] <;> (try simp only [dD] at h))
    | (refine AGet.haveM (by assumption) ?_; (try simp only [go_sem, Go.Proofs.bytesLess_eq]))
    | (refine AGet.have' (by assumption) ?_; (try simp only [go_sem, Go.Proofs.bytesLess_eq]))
    | ((first | refine AGet.nth ?_ (fun b hb => ?_) | refine AGet.nth1 ?_ (fun b hb => ?_) | with_reducible refine And.intro ?_ ?_); (focus (first | omega | assumption | exact List.length_pos_iff.2 (by assumption) | (simp only [List.length_append, List.length_cons, List.length_nil, List.length_map, List.length_take, List.length_drop] at *; omega) | (rw [wrap64_id (by omega) (by omega)]; omega) | (simp; done) | (simp [spare_len]; done) | (exact ⟨by omega, by omega⟩))); (try simp only [hb, go_sem, Go.Proofs.bytesLess_eq]))
    | (
        refine AWP.ret ?_
        refine AEnd.is ?_; simp only [go_sem, out_v, out_s, out_n, v_int, v_bool, v_str] <;> (simp [Go.Proofs.bytesLess_eq]; done))
    | refine AWP.fin (by assumption) ?_)

set_option maxHeartbeats 4000000 in
set_option maxRecDepth 8000 in
theorem bsearch_c (l : List Bs) (x : Bs) (hs : l.Pairwise (fun a b => a ≤ b)) (hl : l.length ≤ 1000000) : ACalls E 102 [.sl none 1 (l.map str), str x] (fun r t => (∃ n : Int, r = .tup [i64 n, bl (decide (x ∈ l))]) ∧ t = []) := by -- slices.BinarySearch[[]string,string]
  refine ACalls.of_awp (n := 54) (rs := [.tmp 4, .tmp 5]) Tryz.func102 rfl Tryz.ntmps102 rfl ?_
  repeat' (first
    | refine AWP.seqk fun K hK => ?_
    | (
        refine AWP.here 5 22 6 rfl ?_
        rw [half_eq (i := i) (j := j) (by omega) (by omega)]
        refine AWP.region ?_; simp only [go_sem])
    | (refine AWP.region ?_; simp only [go_sem])
    | (refine hK _ ?_; clear hK K)
    | refine AWP.block ?_
    | refine AWP.cond rfl (fun c => ?_) (fun c => ?_) <;> first | exact Bool.noConfusion c | (try simp only [dD] at c)
    | refine AWP.skip ?_
    | (refine AWP.exit ?_; simp only [go_sem])
    | (refine ACall.one (cless_c _ _) (by kernel_rfl) rfl ?_; simp only [go_sem])
    | (refine ACall.one (snan_c _) (by kernel_rfl) rfl ?_; simp only [go_sem])
    | (refine AGuard.splitN (fun h => ?_) (fun h => ?_) <;> simp only [h, go_sem] <;> (try simp only [dD] at h))
    | (refine AGuard.split (fun h => ?_) (fun h => ?_) <;> simp only [h, go_sem] <;> (try simp only [dD] at h))
    | (refine AGet.haveM (by assumption) ?_; (try simp only [go_sem]))
    | (refine AGet.have' (by assumption) ?_; (try simp only [go_sem]))
    | ((first | refine AGet.nth ?_ (fun b hb => ?_) | refine AGet.nth1 ?_ (fun b hb => ?_) | with_reducible refine And.intro ?_ ?_); (focus (first | omega | assumption | exact List.length_pos_iff.2 (by assumption) | (simp only [List.length_append, List.length_cons, List.length_nil, List.length_map, List.length_take, List.length_drop] at *; omega) | (rw [wrap64_id (by omega) (by omega)]; omega) | (simp; done) | (simp [spare_len]; done) | (exact ⟨by omega, by omega⟩))); (try simp only [hb, go_sem]))
    | (
        refine AWP.here 3 13 3 rfl ?_
        refine AWP.loopN (ι := Nat × Nat) [9, 13, 14, 15, 16, 17, 18, 19, 20, 21, 22, 23, 24, 25, 26, 27, 28, 29, 30] (fun ⟨i, j⟩ => [(7, i64 i), (8, i64 j)]) (fun ⟨i, j⟩ => i ≤ j ∧ j ≤ l.length ∧ (∀ k y, k < i → l[k]? = some y → y < x) ∧ (∀ k y, j ≤ k → l[k]? = some y → ¬ y < x)) (fun ⟨i, j⟩ => j - i) ((0, l.length)) ?_ ?_ ?_
        · (try simp only [go_sem]); (repeat' (first | refine And.intro ?_ ?_ | exact .inl rfl | exact .inr rfl | exact .inr ⟨rfl, rfl⟩ | trivial | (simp; done)))
        · exact ⟨by simp, by simp, by simp, fun k y h1 h2 => absurd (get_lt h2) (by simpa using h1)⟩
        rintro ⟨i, j⟩ ⟨h1, h2, h3, h4⟩
        simp only [go_sem])
    | (
        first
        | (refine ⟨((i + j) / 2 + 1, j), ?_, ?_, ?_⟩
           · (try simp only [go_sem]); (try rw [wrap64_id (by omega) (by omega)]); simp
           · exact ⟨by show (i + j) / 2 + 1 ≤ j; omega, h2, lows hs h3 hb (by assumption), h4⟩
           · show j - ((i + j) / 2 + 1) < j - i; omega)
        | (refine ⟨(i, (i + j) / 2), ?_, ?_, ?_⟩
           · (try simp only [go_sem]); (try simp)
           · exact ⟨by show i ≤ (i + j) / 2; omega, by show (i + j) / 2 ≤ l.length; omega, h3, highs hs h4 hb (by assumption)⟩
           · show (i + j) / 2 - i < j - i; omega))
    | (
        refine AWP.ret ?_
        simp only [go_sem]
        refine ⟨[], .tup [i64 i, bl (decide (x ∈ l))], rfl, ⟨rfl, ?_, trivial⟩, ⟨i, rfl⟩, rfl⟩
        refine congrArg (fun b => Value.bool b) ?_
        obtain rfl : i = j := by omega
        first | (rw [found_yes h3 h4 hs hb]; simp [*]; done) | exact (found_no (by omega) h3).symm)
    | refine AWP.fin (by assumption) ?_)


end Go.Proofs.YtajeeghgiilhiaaGreat
end
section
set_option linter.unusedVariables false
set_option linter.unusedSimpArgs false
namespace Go.Proofs.YtajeeghgiilhiaaGreat
open Go Go.Abs Go.RowKit Go.Bk
theorem cl_sl {l : List Bs} : ∀ x ∈ (AV.agg [.sl none 1 (l.map str)]).leaves, x.clean1 = some x := by
  intro x hx
  simp only [AV.leaves, List.mem_cons, List.not_mem_nil, or_false] at hx
  subst hx; rfl
theorem cl_strs (l : List Bs) : ∀ e ∈ l.map str, ∀ x ∈ e.leaves, x.clean1 = some x := by
  intro e he x hx
  obtain ⟨o, _, rfl⟩ := List.mem_map.1 he
  simp only [AV.leaves, List.mem_cons, List.not_mem_nil, or_false] at hx
  subst hx; rfl
theorem fresh_strs (l : List Bs) : Fresh [l.length] (.sl (some 0) 1 (l.map str)) := by
  refine ⟨by simp, ?_⟩
  intro e he y hy
  obtain ⟨o, _, rfl⟩ := List.mem_map.1 he
  simp only [AV.leaves, List.mem_cons, List.not_mem_nil, or_false] at hy
  exact ⟨_, hy⟩
theorem strs_take {l : List Bs} {m : Nat} : (l.map str ++ spare 1 m).take l.length = l.map str := List.take_left' (by simp)
theorem strs_snoc {l : List Bs} {x : Bs} : l.map str ++ [str x] = (l ++ [x]).map str := by simp
theorem right_b1 {b : Bk} (h : headB b = false) : rightBk b = false := by simp [rightBk, h]
theorem right_b2 {b : Bk} (h : twiceB (srt b.ids) = true) : rightBk b = false := by
  rw [twiceB_srt] at h; simp [rightBk]; intro _ h2; simp [h2] at h
theorem right_b3 {b : Bk} {i : Nat} {f : Dn} (hb : b.fills[i]? = some f) (h : fillB b f = false) : rightBk b = false := by
  have : b.fills.all (fillB b) = false := by
    rw [List.all_eq_false]; exact ⟨f, List.mem_of_getElem? hb, by simp [h]⟩
  unfold rightBk; rw [this]; simp
theorem right_b4 {b : Bk} (h1 : headB b = true) (h2 : twiceB (srt b.ids) = false) (h3 : b.fills.all (fillB b) = true) : (!(!decide (b.fills.map (·.id)).Nodup)) = rightBk b := by
  rw [twiceB_srt] at h2
  unfold rightBk; rw [h1, h3]
  have : decide b.ids.Nodup = true := by simpa using h2
  rw [this]; simp
theorem fill_yes {b : Bk} {f : Dn} (h1 : smallB f.qty = true) (h2 : smallB f.price = true) (h3 : ¬ f.time < 0) (h4 : ¬ b.clock < f.time) (h5 : f.id ∈ sortL b.ids) : fillB b f = true := by
  rw [mem_srt] at h5
  simp [fillB, h1, h2, h5]; omega
theorem fill_no {b : Bk} {f : Dn} (h5 : ¬ f.id ∈ sortL b.ids) : fillB b f = false := by
  rw [mem_srt] at h5
  simp [fillB, h5]
theorem all_take {α : Type} {l : List α} {p : α → Bool} {i : Nat} {x : α} (hb : l[i]? = some x) (h : (l.take i).all p = true) (hx : p x = true) : (l.take (i + 1)).all p = true := by
  rw [take_next hb, List.all_append, h]; simp [hx]

set_option maxHeartbeats 8000000 in
set_option maxRecDepth 8000 in
theorem bright_c (bk : Bk) (ho : bk.orders.length ≤ 9223372036854775807) (hf : bk.fills.length ≤ 9223372036854775807) (hi : bk.ids.length ≤ 9223372036854775807) : ACalls E 39 [bkV bk] (fun r t => r = bl (rightBk bk) ∧ t = []) := by -- checkroll/book.Right
  refine ACalls.of_awp (n := 100) (rs := [.tmp 2]) Tryz.func39 rfl Tryz.ntmps39 rfl ?_
  repeat' (first
    | refine AWP.seqk fun K hK => ?_
    | (
        refine AWP.here 16 94 2 rfl ?_
        rw [strs_take, strs_snoc]
        refine AWP.renum [0, 1, 4] (by decide) rfl rfl ?_
        simp only [go_sem]
        refine AWP.region ?_; simp only [go_sem])
    | (
        refine AWP.here 17 95 2 rfl ?_
        refine AWP.regionL ?_
        refine AWPL.at 2 1 rfl ?_
        simp only [go_sem]
        refine AWPL.sortS (by kernel_rfl) rfl (fun blk off cap ss w h1 h2 h3 => Go.Proofs.AnyM.slices_Sort_string Go.Proofs.Tryz.sort50 blk off cap ss w h1 h2 h3) (fun p cap w => Go.Proofs.AnyM.slices_Sort_string_none Go.Proofs.Tryz.sort50 p cap w) (id := 2) (l := nl) (sp := spare 1 m) rfl rfl (by omega) ?_
        simp only [go_sem]
        refine AWPL.of ?_
        simp only [go_sem])
    | (refine AWP.here 3 45 5 rfl ?_; refine AWP.regionL ?_; refine AWPL.at 5 2 rfl ?_; simp only [go_sem])
    | (refine AWP.region ?_; simp only [go_sem])
    | (refine hK _ ?_; clear hK K)
    | refine AWP.block ?_
    | refine AWP.cond rfl (fun c => ?_) (fun c => ?_) <;> first | exact Bool.noConfusion c | (try simp only [dD] at c)
    | refine AWP.skip ?_
    | (refine AWP.exit ?_; simp only [go_sem])
    | (refine ACall.one (oright_c _ (by first | assumption | omega | (simp only [List.length_take]; omega))) (by kernel_rfl) rfl ?_; simp only [go_sem])
    | (refine ACall.snap (sorted_c bk.ids (by omega)) (by kernel_rfl) rfl (.cons (.fn (.cons (.ptr (e := .agg [.sl none 1 (bk.ids.map str)]) rfl cl_sl) .nil)) .nil) ?_; rintro r t ⟨rfl, rfl⟩; refine ⟨fresh_strs _, ?_⟩; simp only [go_sem])
    | (refine ACall.one (twice_c _ (by rw [sortL_len]; omega)) (by kernel_rfl) rfl ?_; simp only [go_sem])
    | (refine ACall.snapOne (twice_c (sortL nl) (by rw [sortL_len]; omega)) (by kernel_rfl) rfl (.cons (.one (.mu' rfl (by simp [sortL_len]) (cl_strs _))) .nil) ?_; simp only [go_sem])
    | (refine ACall.one (bamount_c _) (by kernel_rfl) rfl ?_; simp only [go_sem])
    | (refine ACall.of (bsearch_c (sortL bk.ids) _ (srt_sorted _) (by rw [sortL_len]; omega)) (by kernel_rfl) rfl ?_; rintro r t ⟨⟨n, rfl⟩, rfl⟩; simp only [go_sem])
    | (refine AWPL.call (rs := [.tmp 2]) Tryz.func99 rfl Tryz.ntmps99 rfl (by kernel_rfl) rfl rfl ?_; simp only [go_sem])
    | (refine AGuard.splitN (fun h => ?_) (fun h => ?_) <;> simp only [h, go_sem] <;> (try simp only [dD] at h))
    | (refine AGuard.split (fun h => ?_) (fun h => ?_) <;> simp only [h, go_sem] <;> (try simp only [dD] at h))
    | (refine AGet.haveM (by assumption) ?_; (try simp only [go_sem]))
    | (refine AGet.have' (by assumption) ?_; (try simp only [go_sem]))
    | ((first | refine AGet.nth ?_ (fun b hb => ?_) | refine AGet.nth1 ?_ (fun b hb => ?_) | with_reducible refine And.intro ?_ ?_); (focus (first | omega | assumption | exact List.length_pos_iff.2 (by assumption) | (simp only [List.length_append, List.length_cons, List.length_nil, List.length_map, List.length_take, List.length_drop] at *; omega) | (rw [wrap64_id (by omega) (by omega)]; omega) | (simp; done) | (simp [spare_len]; done) | (exact ⟨by omega, by omega⟩))); (try simp only [hb, go_sem]))
    | (
        refine AWP.here 8 55 1 rfl ?_
        refine AWP.nilMu 4 1 rfl ?_
        simp only [go_sem]
        refine AWP.loopM (ι := Nat × List Bs × Nat) [2, 6, 7, 8, 55, 56, 57, 58, 59, 60, 61, 62, 63, 64, 65, 66, 67, 68, 69, 70, 71, 72, 73, 74, 75, 76, 77, 78, 79, 80, 81, 82, 83, 84, 85, 86, 87, 88, 89, 90, 91, 92, 93, 94] (fun ⟨i, nl, m⟩ => [(54, i64 i), (4, .mu 2 1 0 nl.length (nl.length + m))]) (fun ⟨i, nl, m⟩ => [some [.agg [odsV bk.orders, dnsV bk.fills, .sl none 1 (bk.ids.map str), i64 bk.clock, i64 bk.bad]], some [.agg [.sl none 1 (bk.ids.map str)]], some (nl.map str ++ spare 1 m)]) (fun ⟨i, nl, m⟩ => [(sortL bk.ids).length]) (fun ⟨i, nl, m⟩ => i ≤ bk.fills.length ∧ (bk.fills.take i).all (fillB bk) = true ∧ nl = (bk.fills.take i).map (·.id)) (fun ⟨i, nl, m⟩ => bk.fills.length - i) ((0, [], 0)) ?_ ?_ ?_
        · (try simp only [go_sem]); (repeat' (first | refine And.intro ?_ ?_ | exact .inl rfl | exact .inr rfl | exact .inr ⟨rfl, rfl⟩ | trivial | exact .inr (oblA rfl) | exact .inr ⟨rfl, oblA rfl⟩ | exact .inr bel_strs | exact .inr ⟨rfl, bel_strs⟩ | exact .inr ⟨by simp, bel_strs⟩ | (simp; done) | exact .inr ⟨rfl, by simp⟩ | exact .inr ⟨by simp, by simp⟩))
        · exact ⟨Nat.zero_le _, by simp, by simp⟩
        rintro ⟨i, nl, m⟩ ⟨h1, h2, h3⟩
        simp only [go_sem]
        have hnl : nl.length = i := by rw [h3, List.length_map, List.length_take]; omega)
    | (
        refine ⟨(i + 1, nl ++ [b.id], mm), ?_, ?_, ?_⟩
        · (try simp only [go_sem]); (try rw [wrap64_id (by omega) (by omega)]); (repeat' (first | refine And.intro ?_ ?_ | exact .inl rfl | exact .inr rfl | exact .inr ⟨rfl, rfl⟩ | trivial | exact .inr (oblA rfl) | exact .inr ⟨rfl, oblA rfl⟩ | exact .inr bel_strs | exact .inr ⟨rfl, bel_strs⟩ | exact .inr ⟨by simp, bel_strs⟩ | (simp; done) | exact .inr ⟨rfl, by simp⟩ | exact .inr ⟨by simp, by simp⟩))
        · exact ⟨by show i + 1 ≤ bk.fills.length; omega, all_take (by assumption) h2 (fill_yes (by assumption) (by assumption) (by omega) (by omega) (by assumption)), by rw [h3, take_next (by assumption)]; simp⟩
        · show bk.fills.length - (i + 1) < bk.fills.length - i; omega)
    | (
        refine AWP.ret ?_
        refine AEnd.is ?_; simp only [go_sem, out_v, out_s, out_n, v_int, v_bool, v_str] <;> (first
        | (rw [right_b1 (by first | (simp [headB, *]; done) | (simp [headB]; intros; omega))]; done)
        | (rw [right_b2 (by assumption)]; done)
        | (rw [right_b3 hb (by first | (simp [fillB, *]; done) | (simp [fillB]; intros; omega))]; done)
        | (rw [right_b3 hb (fill_no (by assumption))]; done)
        | (rw [twiceB_srt, h3, List.take_of_length_le (by omega)]; rw [List.take_of_length_le (by omega)] at h2; exact right_b4 (by simp [headB, *]; omega) (by assumption) h2)
        | skip))
    | (refine AWP.ret ?_; refine AInPost.ret rfl ?_; simp only [go_sem])
    | (refine AWPL.of ?_; simp only [go_sem])
    | (refine fun (mm : Nat) => ?_; simp only [go_sem])
    | refine AWP.fin (by assumption) ?_)


end Go.Proofs.YtajeeghgiilhiaaGreat
end
section
set_option linter.unusedVariables false
set_option linter.unusedSimpArgs false
namespace Go.Proofs.YtajeeghgiilhiaaGreat
open Go Go.Abs Go.RowKit Go.Bk
abbrev wV (w : Ws) : AV := .agg [i64 w.1, i64 w.2]
theorem nof1 {f : Dn} {acc sym : Bs} (h : f.live = false) : ¬ (f.live = true ∧ f.acc = acc ∧ f.sym = sym) := by simp [h]
theorem nof2 {f : Dn} {acc sym : Bs} (h : ¬ f.acc = acc) : ¬ (f.live = true ∧ f.acc = acc ∧ f.sym = sym) := fun h2 => h h2.2.1
theorem nof3 {f : Dn} {acc sym : Bs} (h : ¬ f.sym = sym) : ¬ (f.live = true ∧ f.acc = acc ∧ f.sym = sym) := fun h2 => h h2.2.2
theorem noo1 {o : Od} {acc sym : Bs} (h : ¬ o.acc = acc) : ¬ (o.acc = acc ∧ o.sym = sym) := fun h2 => h h2.1
theorem noo2 {o : Od} {acc sym : Bs} (h : ¬ o.sym = sym) : ¬ (o.acc = acc ∧ o.sym = sym) := fun h2 => h h2.2
theorem od_same {o : Od} {acc sym : Bs} (h1 : o.acc = acc) (h2 : o.sym = sym) : (⟨o.id, acc, sym, o.buy, o.qty, o.price, o.done, o.opn⟩ : Od) = o := by subst h1; subst h2; rfl
theorem oleft_t {o p : Od} (h : p = o) : ACalls E 111 [odV p] (fun r t => r = i64 (leftF o) ∧ t = []) := by subst h; exact oleft_c p
theorem of_no {b : Bk} {acc sym : Bs} (h : rightBk b = false) : ofF b acc sym = (0, 0) := by unfold ofF; rw [h]; rfl

set_option maxHeartbeats 4000000 in
set_option maxRecDepth 8000 in
theorem plus_c (p q : Ws) : ACalls E 70 [wV p, wV q] (fun r t => r = wV (plusW p q) ∧ t = []) := by -- checkroll/expose.Plus
  refine ACalls.of_awp (n := 16) (rs := [.cell 4 45]) Tryz.func70 rfl Tryz.ntmps70 rfl ?_
  repeat' (first
    | refine AWP.seqk fun K hK => ?_
    | (refine AWP.region ?_; simp only [go_sem])
    | (refine hK _ ?_; clear hK K)
    | refine AWP.block ?_
    | refine AWP.cond rfl (fun c => ?_) (fun c => ?_) <;> first | exact Bool.noConfusion c | (try simp only [dD] at c)
    | refine AWP.skip ?_
    | (refine AWP.exit ?_; simp only [go_sem])
    | (refine AGet.haveM (by assumption) ?_; (try simp only [go_sem]))
    | (refine AGet.have' (by assumption) ?_; (try simp only [go_sem]))
    | ((first | refine AGet.nth ?_ (fun b hb => ?_) | refine AGet.nth1 ?_ (fun b hb => ?_) | with_reducible refine And.intro ?_ ?_); (focus (first | omega | assumption | exact List.length_pos_iff.2 (by assumption) | (simp only [List.length_append, List.length_cons, List.length_nil, List.length_map, List.length_take, List.length_drop] at *; omega) | (rw [wrap64_id (by omega) (by omega)]; omega) | (simp; done) | (simp [spare_len]; done) | (exact ⟨by omega, by omega⟩))); (try simp only [hb, go_sem]))
    | (
        refine AWP.ret ?_
        refine AEnd.is ?_; simp only [go_sem, out_v, out_s, out_n, v_int, v_bool, v_str] <;> (simp [plusW]; done))
    | refine AWP.fin (by assumption) ?_)

set_option maxHeartbeats 4000000 in
set_option maxRecDepth 8000 in
theorem side_c (y : Bool) (q : Int) : ACalls E 109 [bl y, i64 q] (fun r t => r = wV (sideW y q) ∧ t = []) := by -- checkroll/expose.side
  refine ACalls.of_awp (n := 10) (rs := [.cell 4 45]) Tryz.func109 rfl Tryz.ntmps109 rfl ?_
  repeat' (first
    | refine AWP.seqk fun K hK => ?_
    | (refine AWP.region ?_; simp only [go_sem])
    | (refine hK _ ?_; clear hK K)
    | refine AWP.block ?_
    | refine AWP.cond rfl (fun c => ?_) (fun c => ?_) <;> first | exact Bool.noConfusion c | (try simp only [dD] at c)
    | refine AWP.skip ?_
    | (refine AWP.exit ?_; simp only [go_sem])
    | (refine AGet.haveM (by assumption) ?_; (try simp only [go_sem]))
    | (refine AGet.have' (by assumption) ?_; (try simp only [go_sem]))
    | ((first | refine AGet.nth ?_ (fun b hb => ?_) | refine AGet.nth1 ?_ (fun b hb => ?_) | with_reducible refine And.intro ?_ ?_); (focus (first | omega | assumption | exact List.length_pos_iff.2 (by assumption) | (simp only [List.length_append, List.length_cons, List.length_nil, List.length_map, List.length_take, List.length_drop] at *; omega) | (rw [wrap64_id (by omega) (by omega)]; omega) | (simp; done) | (simp [spare_len]; done) | (exact ⟨by omega, by omega⟩))); (try simp only [hb, go_sem]))
    | (
        refine AWP.ret ?_
        refine AEnd.is ?_; simp only [go_sem, out_v, out_s, out_n, v_int, v_bool, v_str] <;> (simp [sideW, *]; done))
    | refine AWP.fin (by assumption) ?_)

set_option maxHeartbeats 4000000 in
set_option maxRecDepth 8000 in
theorem final_c (bk : Bk) (f : Dn) : ACalls E 110 [bkV bk, dnV f] (fun r t => r = bl (finalF bk f) ∧ t = []) := by -- checkroll/expose.final
  refine ACalls.of_awp (n := 19) (rs := [.tmp 4]) Tryz.func110 rfl Tryz.ntmps110 rfl ?_
  repeat' (first
    | refine AWP.seqk fun K hK => ?_
    | (refine AWP.region ?_; simp only [go_sem])
    | (refine hK _ ?_; clear hK K)
    | refine AWP.block ?_
    | refine AWP.cond rfl (fun c => ?_) (fun c => ?_) <;> first | exact Bool.noConfusion c | (try simp only [dD] at c)
    | refine AWP.skip ?_
    | (refine AWP.exit ?_; simp only [go_sem])
    | (refine AGuard.splitN (fun h => ?_) (fun h => ?_) <;> simp only [h, go_sem] <;> (try simp only [dD] at h))
    | (refine AGuard.split (fun h => ?_) (fun h => ?_) <;> simp only [h, go_sem] <;> (try simp only [dD] at h))
    | (refine AGet.haveM (by assumption) ?_; (try simp only [go_sem]))
    | (refine AGet.have' (by assumption) ?_; (try simp only [go_sem]))
    | ((first | refine AGet.nth ?_ (fun b hb => ?_) | refine AGet.nth1 ?_ (fun b hb => ?_) | with_reducible refine And.intro ?_ ?_); (focus (first | omega | assumption | exact List.length_pos_iff.2 (by assumption) | (simp only [List.length_append, List.length_cons, List.length_nil, List.length_map, List.length_take, List.length_drop] at *; omega) | (rw [wrap64_id (by omega) (by omega)]; omega) | (simp; done) | (simp [spare_len]; done) | (exact ⟨by omega, by omega⟩))); (try simp only [hb, go_sem]))
    | (
        refine AWP.ret ?_
        refine AEnd.is ?_; simp only [go_sem, out_v, out_s, out_n, v_int, v_bool, v_str] <;> (first | (unfold finalF; rw [if_pos (by omega)]; done) | (unfold finalF; rw [if_neg (by omega)]; done) | (unfold finalF; rw [if_pos (by omega)]; simp; done) | (unfold finalF; rw [if_neg (by omega)]; simp; done) | skip))
    | refine AWP.fin (by assumption) ?_)

theorem final_t {bk : Bk} {f g : Dn} (h : g.time = f.time) : ACalls E 110 [bkV bk, dnV g] (fun r t => r = bl (finalF bk f) ∧ t = []) := by
  have e : finalF bk f = finalF bk g := by unfold finalF; rw [h]
  rw [e]; exact final_c bk g

set_option maxHeartbeats 8000000 in
set_option maxRecDepth 8000 in
theorem eof_c (bk : Bk) (acc sym : Bs) (ho : bk.orders.length ≤ 9223372036854775807) (hf : bk.fills.length ≤ 9223372036854775807) (hi : bk.ids.length ≤ 9223372036854775807) : ACalls E 42 [bkV bk, str acc, str sym] (fun r t => r = wV (ofF bk acc sym) ∧ t = []) := by -- checkroll/expose.Of
  refine ACalls.of_awp (n := 84) (rs := [.cell 6 45]) Tryz.func42 rfl Tryz.ntmps42 rfl ?_
  repeat' (first
    | refine AWP.seqk fun K hK => ?_
    | (
        refine AWP.here 6 21 4 rfl ?_
        obtain ⟨f, hb⟩ : ∃ f, bk.fills[i]? = some f := ⟨_, List.getElem?_eq_getElem (by omega)⟩
        refine AWP.region ?_; simp only [go_sem])
    | (
        refine AWP.here 14 63 4 rfl ?_
        obtain ⟨o, hc⟩ : ∃ o, bk.orders[j]? = some o := ⟨_, List.getElem?_eq_getElem (by omega)⟩
        refine AWP.region ?_; simp only [go_sem])
    | (refine AWP.region ?_; simp only [go_sem])
    | (refine AWP.here 8 38 8 rfl ?_; refine AWP.regionO [0, 1, 2, 3, 4, 5, 6, 7] [] (by kernel_rfl) (by kernel_rfl) rfl ?_; simp only [go_sem])
    | (refine AWP.here 10 48 10 rfl ?_; refine AWP.regionO [0, 1, 2, 3, 4, 5, 6, 7, 8, 9] [] (by kernel_rfl) (by kernel_rfl) rfl ?_; simp only [go_sem])
    | (refine AWP.here 16 75 8 rfl ?_; refine AWP.regionO [0, 1, 2, 3, 4, 5, 6, 7] [] (by kernel_rfl) (by kernel_rfl) rfl ?_; simp only [go_sem])
    | (refine hK _ ?_; clear hK K)
    | refine AWP.block ?_
    | refine AWP.cond rfl (fun c => ?_) (fun c => ?_) <;> first | exact Bool.noConfusion c | (try simp only [dD] at c)
    | refine AWP.skip ?_
    | (refine AWP.exit ?_; simp only [go_sem])
    | (refine ACall.one (bright_c bk ho hf hi) (by kernel_rfl) rfl ?_; simp only [go_sem])
    | (refine ACall.one (side_c f.buy f.qty) (by kernel_rfl) rfl ?_; simp only [go_sem])
    | (refine ACall.one (side_c (!f.buy) (IntKind.i64.wrap (0 - f.qty))) (by kernel_rfl) rfl ?_; simp only [go_sem])
    | (refine ACall.one (side_c o.buy (leftF o)) (by kernel_rfl) rfl ?_; simp only [go_sem])
    | (refine ACall.one (plus_c w (sideW f.buy f.qty)) (by kernel_rfl) rfl ?_; simp only [go_sem])
    | (refine ACall.one (plus_c (plusW w (sideW f.buy f.qty)) (sideW (!f.buy) (IntKind.i64.wrap (0 - f.qty)))) (by kernel_rfl) rfl ?_; simp only [go_sem])
    | (refine ACall.one (plus_c u (sideW o.buy (leftF o))) (by kernel_rfl) rfl ?_; simp only [go_sem])
    | (refine ACall.one (final_t (bk := bk) (f := f) (g := ⟨f.id, f.ord, f.acc, f.sym, f.buy, f.qty, f.price, f.time, true⟩) rfl) (by kernel_rfl) rfl ?_; simp only [go_sem])
    | (refine ACall.one (final_t (bk := bk) (f := f) (g := ⟨f.id, f.ord, f.acc, sym, f.buy, f.qty, f.price, f.time, true⟩) rfl) (by kernel_rfl) rfl ?_; simp only [go_sem])
    | (refine ACall.one (final_t (bk := bk) (f := f) (g := ⟨f.id, f.ord, acc, f.sym, f.buy, f.qty, f.price, f.time, true⟩) rfl) (by kernel_rfl) rfl ?_; simp only [go_sem])
    | (refine ACall.one (final_t (bk := bk) (f := f) (g := ⟨f.id, f.ord, acc, sym, f.buy, f.qty, f.price, f.time, true⟩) rfl) (by kernel_rfl) rfl ?_; simp only [go_sem])
    | (refine ACall.one (oleft_c o) (by kernel_rfl) rfl ?_; simp only [go_sem])
    | (refine ACall.one (oleft_t (o := o) (p := ⟨o.id, acc, sym, o.buy, o.qty, o.price, o.done, o.opn⟩) (od_same (by assumption) (by assumption))) (by kernel_rfl) rfl ?_; simp only [go_sem])
    | (refine AGuard.splitN (fun h => ?_) (fun h => ?_) <;> simp only [h, go_sem] <;> (try simp only [dD] at h))
    | (refine AGuard.split (fun h => ?_) (fun h => ?_) <;> simp only [h, go_sem] <;> (try simp only [dD] at h))
    | (refine AGet.haveM (by assumption) ?_; (try simp only [go_sem]))
    | (refine AGet.have' (by assumption) ?_; (try simp only [go_sem]))
    | ((first | refine AGet.nth ?_ (fun b hb => ?_) | refine AGet.nth1 ?_ (fun b hb => ?_) | with_reducible refine And.intro ?_ ?_); (focus (first | omega | assumption | exact List.length_pos_iff.2 (by assumption) | (simp only [List.length_append, List.length_cons, List.length_nil, List.length_map, List.length_take, List.length_drop] at *; omega) | (rw [wrap64_id (by omega) (by omega)]; omega) | (simp; done) | (simp [spare_len]; done) | (exact ⟨by omega, by omega⟩))); (try simp only [hb, go_sem]))
    | (
        refine AWP.here 5 20 1 rfl ?_
        refine AWP.loopM (ι := Nat × Ws) [9, 20, 21, 22, 23, 24, 25, 26, 27, 28, 29, 30, 31, 32, 33, 34, 35, 36, 37, 38, 39, 40, 41, 42, 43, 44, 45, 46, 47, 48, 49, 50, 51, 52, 53, 54, 55, 56, 57] (fun ⟨i, w⟩ => [(19, i64 i)]) (fun ⟨i, w⟩ => [some [.agg [odsV bk.orders, dnsV bk.fills, .sl none 1 (bk.ids.map str), i64 bk.clock, i64 bk.bad]], some [.agg [i64 0, i64 0]], some [.agg [i64 w.1, i64 w.2]]]) (fun ⟨i, w⟩ => []) (fun ⟨i, w⟩ => i ≤ bk.fills.length ∧ w = upF bk acc sym i) (fun ⟨i, w⟩ => bk.fills.length - i) ((0, ((0, 0) : Ws))) ?_ ?_ ?_
        · (try simp only [go_sem]); (repeat' (first | refine And.intro ?_ ?_ | exact .inl rfl | exact .inr rfl | exact .inr ⟨rfl, rfl⟩ | trivial | exact .inr (oblA rfl) | exact .inr ⟨rfl, oblA rfl⟩ | exact .inr bel_strs | exact .inr ⟨rfl, bel_strs⟩ | exact .inr ⟨by simp, bel_strs⟩ | (simp; done) | exact .inr ⟨rfl, by simp⟩ | exact .inr ⟨by simp, by simp⟩)); done
        · exact ⟨Nat.zero_le _, rfl⟩
        rintro ⟨i, w⟩ ⟨h1, h2⟩
        simp only [go_sem]
        have hr : rightBk bk = true := by assumption)
    | (
        refine AWP.here 13 62 1 rfl ?_
        refine AWP.loopM (ι := Nat × Ws) [11, 62, 63, 64, 65, 66, 67, 68, 69, 70, 71, 72, 73, 74, 75, 76, 77, 78, 79, 80, 81, 82] (fun ⟨j, u⟩ => [(61, i64 j)]) (fun ⟨j, u⟩ => [some [.agg [odsV bk.orders, dnsV bk.fills, .sl none 1 (bk.ids.map str), i64 bk.clock, i64 bk.bad]], some [.agg [i64 0, i64 0]], some [.agg [i64 u.1, i64 u.2]]]) (fun ⟨j, u⟩ => []) (fun ⟨j, u⟩ => j ≤ bk.orders.length ∧ u = upO bk acc sym j) (fun ⟨j, u⟩ => bk.orders.length - j) ((0, w)) ?_ ?_ ?_
        · (try simp only [go_sem]); (repeat' (first | refine And.intro ?_ ?_ | exact .inl rfl | exact .inr rfl | exact .inr ⟨rfl, rfl⟩ | trivial | exact .inr (oblA rfl) | exact .inr ⟨rfl, oblA rfl⟩ | exact .inr bel_strs | exact .inr ⟨rfl, bel_strs⟩ | exact .inr ⟨by simp, bel_strs⟩ | (simp; done) | exact .inr ⟨rfl, by simp⟩ | exact .inr ⟨by simp, by simp⟩)); done
        · exact ⟨Nat.zero_le _, upO_zero (by omega) h2⟩
        rintro ⟨j, u⟩ ⟨g1, g2⟩
        simp only [go_sem])
    | (
        first
        | (refine ⟨(i + 1, w), ?_, ⟨by show i + 1 ≤ bk.fills.length; omega, up_no hb h2 (by first | exact nof1 (by assumption) | exact nof2 (by assumption) | exact nof3 (by assumption))⟩, by show bk.fills.length - (i + 1) < bk.fills.length - i; omega⟩
           (try simp only [go_sem]); (try rw [wrap64_id (by omega) (by omega)]); (repeat' (first | refine And.intro ?_ ?_ | exact .inl rfl | exact .inr rfl | exact .inr ⟨rfl, rfl⟩ | trivial | exact .inr (oblA rfl) | exact .inr ⟨rfl, oblA rfl⟩ | exact .inr bel_strs | exact .inr ⟨rfl, bel_strs⟩ | exact .inr ⟨by simp, bel_strs⟩ | (simp; done) | exact .inr ⟨rfl, by simp⟩ | exact .inr ⟨by simp, by simp⟩)); done)
        | (refine ⟨(i + 1, plusW w (sideW f.buy f.qty)), ?_, ⟨by show i + 1 ≤ bk.fills.length; omega, up_yes hr hb h2 ⟨by assumption, by assumption, by assumption⟩ (by assumption)⟩, by show bk.fills.length - (i + 1) < bk.fills.length - i; omega⟩
           (try simp only [go_sem]); (try rw [wrap64_id (by omega) (by omega)]); (repeat' (first | refine And.intro ?_ ?_ | exact .inl rfl | exact .inr rfl | exact .inr ⟨rfl, rfl⟩ | trivial | exact .inr (oblA rfl) | exact .inr ⟨rfl, oblA rfl⟩ | exact .inr bel_strs | exact .inr ⟨rfl, bel_strs⟩ | exact .inr ⟨by simp, bel_strs⟩ | (simp; done) | exact .inr ⟨rfl, by simp⟩ | exact .inr ⟨by simp, by simp⟩)); done)
        | (refine ⟨(i + 1, plusW (plusW w (sideW f.buy f.qty)) (sideW (!f.buy) (IntKind.i64.wrap (0 - f.qty)))), ?_, ⟨by show i + 1 ≤ bk.fills.length; omega, up_fin hr hb h2 ⟨by assumption, by assumption, by assumption⟩ (by assumption)⟩, by show bk.fills.length - (i + 1) < bk.fills.length - i; omega⟩
           (try simp only [go_sem]); (try rw [wrap64_id (by omega) (by omega)]); (repeat' (first | refine And.intro ?_ ?_ | exact .inl rfl | exact .inr rfl | exact .inr ⟨rfl, rfl⟩ | trivial | exact .inr (oblA rfl) | exact .inr ⟨rfl, oblA rfl⟩ | exact .inr bel_strs | exact .inr ⟨rfl, bel_strs⟩ | exact .inr ⟨by simp, bel_strs⟩ | (simp; done) | exact .inr ⟨rfl, by simp⟩ | exact .inr ⟨by simp, by simp⟩)); done))
    | (
        first
        | (refine ⟨(j + 1, u), ?_, ⟨by show j + 1 ≤ bk.orders.length; omega, upO_no hc g2 (by first | exact noo1 (by assumption) | exact noo2 (by assumption))⟩, by show bk.orders.length - (j + 1) < bk.orders.length - j; omega⟩
           (try simp only [go_sem]); (try rw [wrap64_id (by omega) (by omega)]); (repeat' (first | refine And.intro ?_ ?_ | exact .inl rfl | exact .inr rfl | exact .inr ⟨rfl, rfl⟩ | trivial | exact .inr (oblA rfl) | exact .inr ⟨rfl, oblA rfl⟩ | exact .inr bel_strs | exact .inr ⟨rfl, bel_strs⟩ | exact .inr ⟨by simp, bel_strs⟩ | (simp; done) | exact .inr ⟨rfl, by simp⟩ | exact .inr ⟨by simp, by simp⟩)); done)
        | (refine ⟨(j + 1, plusW u (sideW o.buy (leftF o))), ?_, ⟨by show j + 1 ≤ bk.orders.length; omega, upO_yes hr hc g2 ⟨by assumption, by assumption⟩⟩, by show bk.orders.length - (j + 1) < bk.orders.length - j; omega⟩
           (try simp only [go_sem]); (try rw [wrap64_id (by omega) (by omega)]); (repeat' (first | refine And.intro ?_ ?_ | exact .inl rfl | exact .inr rfl | exact .inr ⟨rfl, rfl⟩ | trivial | exact .inr (oblA rfl) | exact .inr ⟨rfl, oblA rfl⟩ | exact .inr bel_strs | exact .inr ⟨rfl, bel_strs⟩ | exact .inr ⟨by simp, bel_strs⟩ | (simp; done) | exact .inr ⟨rfl, by simp⟩ | exact .inr ⟨by simp, by simp⟩)); done))
    | (
        refine AWP.ret ?_
        refine AEnd.is ?_; simp only [go_sem, out_v, out_s, out_n, v_int, v_bool, v_str] <;> (first
        | (rw [← upO_end hr (by omega) g2]; done)
        | (rw [← upO_end hr (by omega) g2]; simp; done)
        | (rw [of_no (by assumption)]; done)
        | (rw [of_no (by assumption)]; simp; done)
        | skip))
    | refine AWP.fin (by assumption) ?_)


end Go.Proofs.YtajeeghgiilhiaaGreat
end
section
set_option linter.unusedVariables false
set_option linter.unusedSimpArgs false
namespace Go.Proofs.YtajeeghgiilhiaaGreat
open Go Go.Abs Go.RowKit Go.Bk
abbrev poV (p : Po) : AV := .agg [str p.acc, str p.sym, i64 p.qty, i64 p.value, bl p.over]
theorem sgn_buy {f : Dn} (h : f.buy = true) : sgn f = f.qty := by unfold sgn; rw [h]; rfl
theorem sgn_sell {f : Dn} (h : f.buy = false) : sgn f = -f.qty := by unfold sgn; rw [h]; rfl

set_option maxHeartbeats 8000000 in
set_option maxRecDepth 8000 in
theorem lof_c (bk : Bk) (acc sym : Bs) (ho : bk.orders.length ≤ 9223372036854775807) (hf : bk.fills.length ≤ 9223372036854775807) (hi : bk.ids.length ≤ 9223372036854775807) : ACalls E 72 [bkV bk, str acc, str sym] (fun r t => r = poV (posF bk acc sym) ∧ t = []) := by -- checkroll/ledger.Of
  refine ACalls.of_awp (n := 98) (rs := [.cell 6 49]) Tryz.func72 rfl Tryz.ntmps72 rfl ?_
  repeat' (first
    | refine AWP.seqk fun K hK => ?_
    | (
        refine AWP.here 7 31 4 rfl ?_
        obtain ⟨f, hb⟩ : ∃ f, bk.fills[i]? = some f := ⟨_, List.getElem?_eq_getElem (by omega)⟩
        have hfa := right_amounts hr f (List.mem_of_getElem? hb)
        have hw : IntKind.i64.wrap (0 - f.qty) = -f.qty := by rw [wrap64_id (by omega) (by omega)]; omega
        refine AWP.region ?_; simp only [go_sem])
    | (
        refine AWP.here 11 53 3 rfl ?_
        refine AWP.region ?_; simp only [go_sem, hw])
    | (refine AWP.region ?_; simp only [go_sem])
    | (refine hK _ ?_; clear hK K)
    | refine AWP.block ?_
    | refine AWP.cond rfl (fun c => ?_) (fun c => ?_) <;> first | exact Bool.noConfusion c | (try simp only [dD] at c)
    | refine AWP.skip ?_
    | (refine AWP.exit ?_; simp only [go_sem])
    | (refine ACall.one (bright_c bk ho hf hi) (by kernel_rfl) rfl ?_; simp only [go_sem])
    | (refine ACall.one (nmul_c _ _) (by kernel_rfl) rfl ?_; simp only [go_sem])
    | (refine ACall.one (nsum_c qs (by omega)) (by kernel_rfl) rfl ?_; simp only [go_sem])
    | (refine ACall.one (nsum_c vs (by omega)) (by kernel_rfl) rfl ?_; simp only [go_sem])
    | (refine AGuard.splitN (fun h => ?_) (fun h => ?_) <;> simp only [h, go_sem] <;> (try simp only [dD] at h))
    | (refine AGuard.split (fun h => ?_) (fun h => ?_) <;> simp only [h, go_sem] <;> (try simp only [dD] at h))
    | (refine AGet.haveM (by assumption) ?_; (try simp only [go_sem]))
    | (refine AGet.have' (by assumption) ?_; (try simp only [go_sem]))
    | ((first | refine AGet.nth ?_ (fun b hb => ?_) | refine AGet.nth1 ?_ (fun b hb => ?_) | with_reducible refine And.intro ?_ ?_); (focus (first | omega | assumption | exact List.length_pos_iff.2 (by assumption) | (simp only [List.length_append, List.length_cons, List.length_nil, List.length_map, List.length_take, List.length_drop] at *; omega) | (rw [wrap64_id (by omega) (by omega)]; omega) | (simp; done) | (simp [spare_len]; done) | (exact ⟨by omega, by omega⟩))); (try simp only [hb, go_sem]))
    | (
        refine AWP.here 6 30 1 rfl ?_
        refine AWP.nilTok 8 1 rfl ?_
        refine AWP.nilTok 9 1 rfl ?_
        simp only [go_sem]
        refine AWP.loopM (ι := Nat × List Int × List Int) [11, 12, 13, 14, 30, 31, 32, 33, 34, 35, 36, 37, 38, 39, 40, 41, 42, 43, 44, 45, 46, 47, 48, 49, 50, 51, 52, 53, 54, 55, 56, 57, 58, 59, 60, 61, 62, 63, 64, 65, 66, 67, 68, 69, 70, 71, 72, 73, 74] (fun ⟨i, qs, vs⟩ => [(29, i64 i), (8, .sl (some 0) 1 (qs.map i64)), (9, .sl (some 1) 1 (vs.map i64))]) (fun ⟨i, qs, vs⟩ => [some [.agg [odsV bk.orders, dnsV bk.fills, .sl none 1 (bk.ids.map str), i64 bk.clock, i64 bk.bad]], some [.agg [str [], str [], i64 0, i64 0, bl false]], some [.agg [str acc, str sym, i64 0, i64 0, bl false]]]) (fun ⟨i, qs, vs⟩ => [qs.length, vs.length]) (fun ⟨i, qs, vs⟩ => Gath bk acc sym i qs vs) (fun ⟨i, qs, vs⟩ => bk.fills.length - i) ((0, [], [])) ?_ ?_ ?_
        · (try simp only [go_sem]); (repeat' (first | refine And.intro ?_ ?_ | exact .inl rfl | exact .inr rfl | exact .inr ⟨rfl, rfl⟩ | trivial | exact .inr (oblA rfl) | exact .inr ⟨rfl, oblA rfl⟩ | exact .inr bel_strs | exact .inr ⟨rfl, bel_strs⟩ | exact .inr ⟨by simp, bel_strs⟩ | (simp; done) | exact .inr ⟨rfl, by simp⟩ | exact .inr ⟨by simp, by simp⟩)); done
        · exact Gath.zero
        rintro ⟨i, qs, vs⟩ hg
        simp only [go_sem]
        have hr : rightBk bk = true := by assumption
        have hgl := hg.len hr)
    | (
        first
        | (refine ⟨(i + 1, qs, vs), ?_, hg.no hb (by first | exact nof1 (by assumption) | exact nof2 (by assumption) | exact nof3 (by assumption)), by show bk.fills.length - (i + 1) < bk.fills.length - i; omega⟩
           (try simp only [go_sem]); (try rw [wrap64_id (by omega) (by omega)]); (repeat' (first | refine And.intro ?_ ?_ | exact .inl rfl | exact .inr rfl | exact .inr ⟨rfl, rfl⟩ | trivial | exact .inr (oblA rfl) | exact .inr ⟨rfl, oblA rfl⟩ | exact .inr bel_strs | exact .inr ⟨rfl, bel_strs⟩ | exact .inr ⟨by simp, bel_strs⟩ | (simp; done) | exact .inr ⟨rfl, by simp⟩ | exact .inr ⟨by simp, by simp⟩)); done)
        | (refine ⟨(i + 1, qs ++ [f.qty], vs ++ [(mulF (f.qty) f.price).1]), ?_, hg.yes hb ⟨by assumption, by assumption, by assumption⟩ (sgn_buy (by assumption)) (by assumption), by show bk.fills.length - (i + 1) < bk.fills.length - i; omega⟩
           (try simp only [go_sem]); (try rw [wrap64_id (by omega) (by omega)]); (repeat' (first | refine And.intro ?_ ?_ | exact .inl rfl | exact .inr rfl | exact .inr ⟨rfl, rfl⟩ | trivial | exact .inr (oblA rfl) | exact .inr ⟨rfl, oblA rfl⟩ | exact .inr bel_strs | exact .inr ⟨rfl, bel_strs⟩ | exact .inr ⟨by simp, bel_strs⟩ | (simp; done) | exact .inr ⟨rfl, by simp⟩ | exact .inr ⟨by simp, by simp⟩)); done)
        | (refine ⟨(i + 1, qs ++ [-f.qty], vs ++ [(mulF (-f.qty) f.price).1]), ?_, hg.yes hb ⟨by assumption, by assumption, by assumption⟩ (sgn_sell (by assumption)) (by assumption), by show bk.fills.length - (i + 1) < bk.fills.length - i; omega⟩
           (try simp only [go_sem]); (try rw [wrap64_id (by omega) (by omega)]); (repeat' (first | refine And.intro ?_ ?_ | exact .inl rfl | exact .inr rfl | exact .inr ⟨rfl, rfl⟩ | trivial | exact .inr (oblA rfl) | exact .inr ⟨rfl, oblA rfl⟩ | exact .inr bel_strs | exact .inr ⟨rfl, bel_strs⟩ | exact .inr ⟨by simp, bel_strs⟩ | (simp; done) | exact .inr ⟨rfl, by simp⟩ | exact .inr ⟨by simp, by simp⟩)); done))
    | (
        refine AWP.ret ?_
        refine AEnd.is ?_; simp only [go_sem, out_v, out_s, out_n, v_int, v_bool, v_str] <;> (first
        | (rw [pos_none (by assumption)]; simp; done)
        | (rw [pos_over hr hb ⟨by assumption, by assumption, by assumption⟩ (sgn_buy (by assumption)) (by assumption)]; simp; done)
        | (rw [pos_over hr hb ⟨by assumption, by assumption, by assumption⟩ (sgn_sell (by assumption)) (by assumption)]; simp; done)
        | (rw [pos_no1 hg hr (by omega) (.inl (by assumption))]; simp; done)
        | (rw [pos_no1 hg hr (by omega) (.inr (by assumption))]; simp; done)
        | (rw [pos_yes hg hr (by omega) (by assumption) (by assumption)]; simp; done)
        | skip))
    | refine AWP.fin (by assumption) ?_)


end Go.Proofs.YtajeeghgiilhiaaGreat
end
section
set_option linter.unusedVariables false
set_option linter.unusedSimpArgs false
namespace Go.Proofs.YtajeeghgiilhiaaGreat
open Go Go.Abs Go.RowKit Go.Bk
theorem pl_dn (l : List Dn) : ∀ e ∈ l.map dnV, e.leaves.length = 9 ∧ ∀ y ∈ e.leaves, ∃ z, y = .v z := by
  intro e he
  obtain ⟨o, _, rfl⟩ := List.mem_map.1 he
  refine ⟨rfl, fun x hx => ?_⟩
  simp only [AV.leaves, List.mem_cons, List.not_mem_nil, or_false] at hx
  rcases hx with rfl | rfl | rfl | rfl | rfl | rfl | rfl | rfl | rfl <;> exact ⟨_, rfl⟩
theorem right_facts {b : Bk} (h : rightBk b = true) : headB b = true ∧ (b.orders.length ≤ 64 ∧ b.fills.length ≤ 256 ∧ b.ids.length ≤ 256) ∧ ∀ f ∈ b.fills, 0 ≤ f.time ∧ f.time ≤ 4611686018427387904 := by
  simp only [rightBk, Bool.and_eq_true] at h
  obtain ⟨⟨⟨h1, h2⟩, h3⟩, h4⟩ := h
  refine ⟨h1, ?_, fun f hf => ?_⟩
  · simp only [headB, Bool.and_eq_true, decide_eq_true_eq] at h1
    exact ⟨right_len (by simp [h1]), by omega, by omega⟩
  · have := List.all_eq_true.1 h3 f hf
    simp only [headB, fillB, Bool.and_eq_true, decide_eq_true_eq] at h1 this
    omega
theorem come_no {b : Bk} {x : Ex} (h : rightBk b = false ∨ execB x = false) : comeF b x = (b, 0) := by
  unfold comeF; rcases h with h | h <;> simp [h]
theorem come_yes {b : Bk} {x : Ex} (h1 : rightBk b = true) (h2 : execB x = true) : comeF b x = takeF b x := by
  unfold comeF; simp [h1, h2]

set_option maxHeartbeats 4000000 in
set_option maxRecDepth 8000 in
theorem oclone_p (l : List Od) (hl : l.length ≤ 1000000) : ACalls E 126 [.sl none 8 (l.map odV)] (fun r t => r = .sl none 8 (l.map odV) ∧ t = []) := by -- slices.Clone[[]checkroll/api.Order,checkroll/api.Order]
  refine ACalls.of_awp (n := 8) (rs := [.tmp 2]) Tryz.func126 rfl Tryz.ntmps126 rfl ?_
  repeat' (first
    | refine AWP.seqk fun K hK => ?_
    | (refine AWP.region ?_; simp only [go_sem])
    | (refine hK _ ?_; clear hK K)
    | refine AWP.block ?_
    | refine AWP.cond rfl (fun c => ?_) (fun c => ?_) <;> first | exact Bool.noConfusion c | (try simp only [dD] at c)
    | refine AWP.skip ?_
    | (refine AWP.exit ?_; simp only [go_sem])
    | (refine AGet.haveM (by assumption) ?_; (try simp only [go_sem]))
    | (refine AGet.have' (by assumption) ?_; (try simp only [go_sem]))
    | ((first | refine AGet.nth ?_ (fun b hb => ?_) | refine AGet.nth1 ?_ (fun b hb => ?_) | with_reducible refine And.intro ?_ ?_); (focus (first | omega | assumption | exact List.length_pos_iff.2 (by assumption) | (simp only [List.length_append, List.length_cons, List.length_nil, List.length_map, List.length_take, List.length_drop] at *; omega) | (rw [wrap64_id (by omega) (by omega)]; omega) | (simp; done) | (simp [spare_len]; done) | (exact ⟨by omega, by omega⟩))); (try simp only [hb, go_sem]))
    | (
        refine AWP.ret ?_
        refine AEnd.is ?_; simp only [go_sem, out_v, out_s, out_n, v_int, v_bool, v_str] <;> (first
        | (have he : l = [] := by
             apply Classical.byContradiction; intro hne
             have := hbb (by simpa using hne)
             rw [this] at c; exact absurd c (by simp)
           simp [he]; done)
        | (simp; done)))
    | (refine fun (bb : Bool) (hbb : _ → bb = false) => ?_)
    | refine AWP.fin (by assumption) ?_)

set_option maxHeartbeats 4000000 in
set_option maxRecDepth 8000 in
theorem dclone_c (l : List Dn) (hl : l.length ≤ 1000000) : ACalls E 127 [.sl none 9 (l.map dnV)] (fun r t => r = .sl (some 0) 9 (l.map dnV) ∧ t = [l.length]) := by -- slices.Clone[[]checkroll/api.Done,checkroll/api.Done]
  refine ACalls.of_awp (n := 8) (rs := [.tmp 2]) Tryz.func127 rfl Tryz.ntmps127 rfl ?_
  repeat' (first
    | refine AWP.seqk fun K hK => ?_
    | (refine AWP.region ?_; simp only [go_sem])
    | (refine hK _ ?_; clear hK K)
    | refine AWP.block ?_
    | refine AWP.cond rfl (fun c => ?_) (fun c => ?_) <;> first | exact Bool.noConfusion c | (try simp only [dD] at c)
    | refine AWP.skip ?_
    | (refine AWP.exit ?_; simp only [go_sem])
    | (refine AGet.haveM (by assumption) ?_; (try simp only [go_sem]))
    | (refine AGet.have' (by assumption) ?_; (try simp only [go_sem]))
    | ((first | refine AGet.nth ?_ (fun b hb => ?_) | refine AGet.nth1 ?_ (fun b hb => ?_) | with_reducible refine And.intro ?_ ?_); (focus (first | omega | assumption | exact List.length_pos_iff.2 (by assumption) | (simp only [List.length_append, List.length_cons, List.length_nil, List.length_map, List.length_take, List.length_drop] at *; omega) | (rw [wrap64_id (by omega) (by omega)]; omega) | (simp; done) | (simp [spare_len]; done) | (exact ⟨by omega, by omega⟩))); (try simp only [hb, go_sem]))
    | (
        refine AWP.ret ?_
        simp only [go_sem]
        first
        | (have he : l = [] := by
             apply Classical.byContradiction; intro hne
             have := hbb (by simpa using hne)
             rw [this] at c; exact absurd c (by simp)
           exact ⟨[(false, 9)], .sl (some 0) 9 [], rfl, rfl, by rw [he]; rfl, by rw [he]; rfl⟩)
        | exact ⟨[(true, 0)], .sl (some 0) 9 _, rfl, ⟨rfl, rfl, rfl⟩, by simp, by simp [selLens]⟩)
    | (refine fun (bb : Bool) (hbb : _ → bb = false) => ?_)
    | refine AWP.fin (by assumption) ?_)

set_option maxHeartbeats 4000000 in
set_option maxRecDepth 8000 in
theorem sclone_c (l : List Bs) (hl : l.length ≤ 1000000) : ACalls E 128 [.sl none 1 (l.map str)] (fun r t => r = .sl (some 0) 1 (l.map str) ∧ t = [l.length]) := by -- slices.Clone[[]string,string]
  refine ACalls.of_awp (n := 8) (rs := [.tmp 2]) Tryz.func128 rfl Tryz.ntmps128 rfl ?_
  repeat' (first
    | refine AWP.seqk fun K hK => ?_
    | (refine AWP.region ?_; simp only [go_sem])
    | (refine hK _ ?_; clear hK K)
    | refine AWP.block ?_
    | refine AWP.cond rfl (fun c => ?_) (fun c => ?_) <;> first | exact Bool.noConfusion c | (try simp only [dD] at c)
    | refine AWP.skip ?_
    | (refine AWP.exit ?_; simp only [go_sem])
    | (refine AGet.haveM (by assumption) ?_; (try simp only [go_sem]))
    | (refine AGet.have' (by assumption) ?_; (try simp only [go_sem]))
    | ((first | refine AGet.nth ?_ (fun b hb => ?_) | refine AGet.nth1 ?_ (fun b hb => ?_) | with_reducible refine And.intro ?_ ?_); (focus (first | omega | assumption | exact List.length_pos_iff.2 (by assumption) | (simp only [List.length_append, List.length_cons, List.length_nil, List.length_map, List.length_take, List.length_drop] at *; omega) | (rw [wrap64_id (by omega) (by omega)]; omega) | (simp; done) | (simp [spare_len]; done) | (exact ⟨by omega, by omega⟩))); (try simp only [hb, go_sem]))
    | (
        refine AWP.ret ?_
        simp only [go_sem]
        first
        | (have he : l = [] := by
             apply Classical.byContradiction; intro hne
             have := hbb (by simpa using hne)
             rw [this] at c; exact absurd c (by simp)
           exact ⟨[(false, 1)], .sl (some 0) 1 [], rfl, rfl, by rw [he]; rfl, by rw [he]; rfl⟩)
        | exact ⟨[(true, 0)], .sl (some 0) 1 _, rfl, ⟨rfl, rfl, rfl⟩, by simp, by simp [selLens]⟩)
    | (refine fun (bb : Bool) (hbb : _ → bb = false) => ?_)
    | refine AWP.fin (by assumption) ?_)


end Go.Proofs.YtajeeghgiilhiaaGreat
end
section
set_option linter.unusedVariables false
set_option linter.unusedSimpArgs false
namespace Go.Proofs.YtajeeghgiilhiaaGreat
open Go Go.Abs Go.RowKit Go.Bk

set_option maxHeartbeats 8000000 in
set_option maxRecDepth 8000 in
theorem come_c (bk : Bk) (x : Ex) (ho : bk.orders.length ≤ 1000000) (hf : bk.fills.length ≤ 1000000) (hi : bk.ids.length ≤ 1000000) : ACalls E 41 [bkV bk, exV x] (fun r t => r = .tup [bkV (comeF bk x).1, i64 (comeF bk x).2] ∧ t = []) := by -- checkroll/book.Come
  refine ACalls.of_awp (n := 22) (rs := [.cell 4 26, .tmp 5]) Tryz.func41 rfl Tryz.ntmps41 rfl ?_
  repeat' (first
    | refine AWP.seqk fun K hK => ?_
    | (
        refine AWP.here 2 9 8 rfl ?_
        refine AWP.renum [2, 0, 5, 1] (by decide) rfl rfl ?_
        simp only [go_sem, dn_ren]
        refine AWP.region ?_; simp only [go_sem])
    | (
        refine AWP.here 3 17 3 rfl ?_
        refine AWP.publishLeaf 1 1 (jd := 2) (k := 9) (n := bk.fills.length) (cap := bk.fills.length + m) _ (rowV bk m) (by decide) rfl rfl rfl (by simp [rowV]) (by rw [row_take]; exact cl_dn _) ?_
        rw [row_take]
        simp only [go_sem]
        refine AWP.region ?_; simp only [go_sem])
    | (
        refine AWP.here 5 20 4 rfl ?_
        refine AWP.publishLeaf 1 1 (jd := 2) (k := 9) (n := b2.fills.length) (cap := b2.fills.length + m2) _ (rowV b2 m2) (by decide) rfl rfl rfl (by simp [rowV]) (by rw [row_take]; exact cl_dn _) ?_
        rw [row_take]
        simp only [go_sem]
        refine AWP.region ?_; simp only [go_sem])
    | (
        refine AWP.here 4 18 3 rfl ?_
        have hr := right_facts (by assumption)
        refine AWP.weaken (t := ⟨[.any, .any, .ptr 1 0 0, .ptr 3 0 0, .ptr 0 0 0, .any, .any, .any, .any, .any, .any, .any, .any, .any, .any, .any, .any, .any, .any, .any, .any, .any], [Z0, some [bookV bk m], some (rowV bk m), some [exV x]], [bk.ids.length], fun _ => none, none, []⟩) ⟨⟨.inl rfl, .inl rfl, .inr ⟨rfl, rfl⟩, .inr ⟨rfl, rfl⟩, .inr ⟨rfl, rfl⟩, .inl rfl, .inl rfl, .inl rfl, .inl rfl, .inl rfl, .inl rfl, .inl rfl, .inl rfl, .inl rfl, .inl rfl, .inl rfl, .inl rfl, .inl rfl, .inl rfl, .inl rfl, .inl rfl, .inl rfl, trivial⟩, wkO_bel own_bel1, ⟨rfl, trivial⟩, rfl, rfl, rfl, rfl⟩ ?_
        refine AWP.regionL ?_
        refine AWPL.at 3 1 rfl ?_
        simp only [go_sem]
        refine take_call (b := bk) (x := x) (m := m) rfl rfl (by assumption) hr.2.2 (by omega) (by omega) (by omega) (kpL_app (n := 0) (by decide) rfl rfl) ?_
        intro b2 e2 m2 hb2
        have hlen := takeF_grows bk x
        rw [hb2] at hlen
        refine AWPL.of ?_
        simp only [go_sem])
    | (refine AWP.here 1 7 3 rfl ?_; refine AWP.regionL ?_; refine AWPL.at 3 1 rfl ?_; simp only [go_sem])
    | (refine AWP.region ?_; simp only [go_sem])
    | (refine hK _ ?_; clear hK K)
    | refine AWP.block ?_
    | refine AWP.cond rfl (fun c => ?_) (fun c => ?_) <;> first | exact Bool.noConfusion c | (try simp only [dD] at c)
    | refine AWP.skip ?_
    | (refine AWP.exit ?_; simp only [go_sem])
    | (refine ACall.snapOne (bright_c bk (by omega) (by omega) (by omega)) (by kernel_rfl) rfl (.cons (.agg (.cons (.clean rfl) (.cons (.mu' rfl (by simp) (cl_dn _)) (.cons (.clean rfl) (.cons (.clean rfl) (.cons (.clean rfl) .nil)))))) .nil) ?_; simp only [go_sem])
    | (refine ACall.one (mexec_c _) (by kernel_rfl) rfl ?_; simp only [go_sem])
    | (refine ACall.one (oclone_p _ (by first | assumption | omega | (simp only [List.length_take]; omega))) (by kernel_rfl) rfl ?_; simp only [go_sem])
    | (refine ACall.take (dclone_c bk.fills (by omega)) (by kernel_rfl) rfl (.cons (.one (.clean rfl)) .nil) ?_; rintro r t ⟨rfl, rfl⟩; refine ⟨0, 9, _, rfl, by simp, pl_dn _, fun m => ?_⟩; simp only [go_sem, List.length_map])
    | (refine ACall.of (sclone_c bk.ids (by omega)) (by kernel_rfl) rfl ?_; rintro r t ⟨rfl, rfl⟩; simp only [go_sem])
    | (refine AWPL.call (rs := [.cell 2 26]) Tryz.func106 rfl Tryz.ntmps106 rfl (by kernel_rfl) rfl rfl ?_; simp only [go_sem])
    | (refine AGuard.splitN (fun h => ?_) (fun h => ?_) <;> simp only [h, go_sem] <;> (try simp only [dD] at h))
    | (refine AGuard.split (fun h => ?_) (fun h => ?_) <;> simp only [h, go_sem] <;> (try simp only [dD] at h))
    | (refine AGet.haveM (by assumption) ?_; (try simp only [go_sem]))
    | (refine AGet.have' (by assumption) ?_; (try simp only [go_sem]))
    | ((first | refine AGet.nth ?_ (fun b hb => ?_) | refine AGet.nth1 ?_ (fun b hb => ?_) | with_reducible refine And.intro ?_ ?_); (focus (first | omega | assumption | exact List.length_pos_iff.2 (by assumption) | (simp only [List.length_append, List.length_cons, List.length_nil, List.length_map, List.length_take, List.length_drop] at *; omega) | (rw [wrap64_id (by omega) (by omega)]; omega) | (simp; done) | (simp [spare_len]; done) | (exact ⟨by omega, by omega⟩))); (try simp only [hb, go_sem]))
    | (
        refine AWP.ret ?_
        refine AEnd.is ?_; simp only [go_sem, out_v, out_s, out_n, v_int, v_bool, v_str] <;> (first
        | (rw [come_no (.inl (by assumption))]; simp; done)
        | (rw [come_no (.inr (by assumption))]; simp; done)
        | (rw [come_yes (by assumption) (by assumption), hb2]; simp; done)
        | skip))
    | (refine AWP.ret ?_; refine AInPost.ret rfl ?_; simp only [go_sem])
    | (refine AWPL.of ?_; simp only [go_sem])
    | refine AWP.fin (by assumption) ?_)


end Go.Proofs.YtajeeghgiilhiaaGreat
end
section
set_option linter.unusedVariables false
set_option linter.unusedSimpArgs false
namespace Go.Proofs.YtajeeghgiilhiaaGreat
open Go Go.Abs Go.RowKit Go.Bk
end Go.Proofs.YtajeeghgiilhiaaGreat
end
section
set_option linter.unusedVariables false
set_option linter.unusedSimpArgs false
namespace Go.Proofs.YtajeeghgiilhiaaGreat
open Go Go.Abs Go.RowKit Go.Bk
set_option maxHeartbeats 4000000 in
set_option maxRecDepth 8000 in
theorem ccmpg_c (s u : Bs) : ACalls E 132 [str s, str u] (fun r t => r = i64 (cmpS s u) ∧ t = []) := by -- cmp.Compare[string]
  refine ACalls.of_awp (n := 20) (rs := [.tmp 4]) Tryz.func132 rfl Tryz.ntmps132 rfl ?_
  repeat' (first
    | refine AWP.seqk fun K hK => ?_
    | (refine AWP.region ?_; simp only [go_sem, Go.Proofs.bytesLess_eq])
    | (refine hK _ ?_; clear hK K)
    | refine AWP.block ?_
    | refine AWP.cond rfl (fun c => ?_) (fun c => ?_) <;> first | exact Bool.noConfusion c | (try simp only [dD] at c)
    | refine AWP.skip ?_
    | (refine AWP.exit ?_; simp only [go_sem, Go.Proofs.bytesLess_eq])
    | (refine ACall.one (cnan_c _) (by kernel_rfl) rfl ?_; simp only [go_sem, Go.Proofs.bytesLess_eq])
    | (refine AGet.haveM (by assumption) ?_; (try simp only [go_sem, Go.Proofs.bytesLess_eq]))
    | (refine AGet.have' (by assumption) ?_; (try simp only [go_sem, Go.Proofs.bytesLess_eq]))
    | ((first | refine AGet.nth ?_ (fun b hb => ?_) | refine AGet.nth1 ?_ (fun b hb => ?_) | with_reducible refine And.intro ?_ ?_); (focus (first | omega | assumption | exact List.length_pos_iff.2 (by assumption) | (simp only [List.length_append, List.length_cons, List.length_nil, List.length_map, List.length_take, List.length_drop] at *; omega) | (rw [wrap64_id (by omega) (by omega)]; omega) | (simp; done) | (simp [spare_len]; done) | (exact ⟨by omega, by omega⟩))); (try simp only [hb, go_sem, Go.Proofs.bytesLess_eq]))
    | (
        refine AWP.ret ?_
        refine AEnd.is ?_; simp only [go_sem, out_v, out_s, out_n, v_int, v_bool, v_str] <;> (simp only [cmpS]; (try simp only [decide_eq_true_eq, decide_eq_false_iff_not, Bool.or_eq_true, Bool.or_eq_false_iff, not_or, Bool.not_eq_true, Bool.not_eq_false] at *); first | (rw [if_pos (by assumption)]; done) | (simp_all; done) | (rcases ‹_ ∨ _› with h3 | h3 <;> simp_all; done) | skip))
    | refine AWP.fin (by assumption) ?_
    | fail)

end Go.Proofs.YtajeeghgiilhiaaGreat
end
