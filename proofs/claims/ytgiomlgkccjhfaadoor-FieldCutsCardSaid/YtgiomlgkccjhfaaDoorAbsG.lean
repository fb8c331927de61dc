/- The operations that make or write memory: boxes, stores, literals, appending. -/
import Derived.Test.YtgiomlgkccjhfaaDoorAbsF
import Derived.Laws.BytesArg
namespace Go.Abs
open Go Go.RowKit
set_option linter.unusedVariables false
set_option linter.unusedSimpArgs false

section
variable {P : Program} {w0 : World} {im0 : Im} {c : Ctx} {st : St} {a : Act} {w : World}

/-- The content of an own block turns. -/
theorem Rel.setOwn {w' : World} (r : Rel w0 im0 c st a w) {id g k : Nat} {es es' : List AV} (h1 : c.β[id]? = some (some (g, k))) (h2 : st.own[id]? = some (some es))
    (hw : ∀ b, b ≠ g → w'.heap[b]? = w.heap[b]?) (hb : Below w0.heap.size w0 w')
    (hblk : ∃ cs ty lo hi, w'.heap[g]? = some (.cells cs ty (lo, hi)) ∧ (∀ o, o < cs.size → ¬ (lo ≤ o ∧ o < hi)) ∧ es'.length * k ≤ cs.size ∧
      (∀ (i : Nat) (e : AV), es'[i]? = some e → e.leaves.length = k) ∧ ∀ (i : Nat) (e : AV) (j : Nat) (x : AV), es'[i]? = some e → e.leaves[j]? = some x → ∃ v, cs[i * k + j]? = some v ∧ VR c x v ∧ v.oneCell' = true) :
    Rel w0 im0 c { st with own := st.own.set id (some es') } a w' := by
  have ho := r.own id g k es h1 h2
  refine ⟨r.defers, r.size, r.tmps, hb, r.imle, r.imold, ?_, by simp [r.ownlen], ?_, r.tklen, r.tail, ?_, ?_, r.glob, r.hole⟩
  · intro b o x h
    have hne : b ≠ g := fun e => by subst e; rw [ho.im o] at h; simp at h
    rw [cell_of_block (hw b hne)]
    exact r.imok b o x h
  · intro i g' k' es2 e1 e2
    simp only [List.getElem?_set] at e2
    by_cases hi : id = i
    · subst hi
      rw [if_pos rfl] at e2
      split at e2
      · simp only [Option.some.injEq] at e2
        subst e2
        rw [h1] at e1
        simp only [Option.some.injEq, Prod.mk.injEq] at e1
        obtain ⟨rfl, rfl⟩ := e1
        exact ⟨ho.new, ho.im, hblk⟩
      · simp at e2
    · rw [if_neg hi] at e2
      have hne := r.apart.oo i id g' k' g k es2 es e1 h1 e2 h2 (Ne.symm hi)
      exact (r.own i g' k' es2 e1 e2).mono (.refl c) (r.own i g' k' es2 e1 e2).im (hw g' hne)
  · intro t T b e1 e2
    have := r.tok t T b e1 e2
    have hne := r.apart.ot id t g k es T b h1 h2 e1 e2
    obtain ⟨cs, ty, lo, hi, h3, h4⟩ := this.blk
    exact ⟨this.new, this.room, this.im, cs, ty, lo, hi, by rw [hw b (Ne.symm hne)]; exact h3, h4⟩
  · have conv : ∀ {i : Nat} {e : List AV}, (st.own.set id (some es'))[i]? = some (some e) → ∃ e', st.own[i]? = some (some e') := by
      intro i e he
      rw [List.getElem?_set] at he
      by_cases hi : id = i
      · subst hi; exact ⟨es, h2⟩
      · rw [if_neg hi] at he; exact ⟨e, he⟩
    refine ⟨?_, ?_, r.apart.tt⟩
    · intro i j g1 k1 g2 k2 e1 e2 a1 a2 a3 a4 hij
      obtain ⟨e1', a3⟩ := conv a3
      obtain ⟨e2', a4⟩ := conv a4
      exact r.apart.oo i j g1 k1 g2 k2 e1' e2' a1 a2 a3 a4 hij
    · intro i t g1 k1 e1 T b a1 a2 a3 a4
      obtain ⟨e1', a2⟩ := conv a2
      exact r.apart.ot i t g1 k1 e1' T b a1 a2 a3 a4

/-- A token goes on: what it owns has more elements; its block may be another one. -/
theorem Rel.setTok {w' : World} (r : Rel w0 im0 c st a w) {t : Nat} {T T' : Tok} {im' : Im} (h1 : c.tk[t]? = some T) (hk : T'.k = T.k) (hlt : T.tail < T'.tail)
    (hw : ∀ b, b < w.heap.size → T.blk ≠ some b → w'.heap[b]? = w.heap[b]?) (hb : Below w0.heap.size w0 w') (him : c.im.le im')
    (hok : ∀ (b o : Nat) (x : Value), im' b o = some x → w'.cell? ⟨b, o, none⟩ = some x)
    (hold : ∀ (b o : Nat), b < w.heap.size → T.blk ≠ some b → im' b o = c.im b o)
    (hblk : ∀ b, T'.blk = some b → (T.blk = some b ∨ w.heap.size ≤ b) ∧ TokOK im' w0.heap.size w' T' b) :
    c.le ⟨c.β, c.tk.set t T', im'⟩ ∧ Rel w0 im0 ⟨c.β, c.tk.set t T', im'⟩ { st with tk := st.tk.set t T'.tail } a w' := by
  have htl : t < c.tk.length := by
    rcases Nat.lt_or_ge t c.tk.length with h' | h'
    · exact h'
    · rw [List.getElem?_eq_none h'] at h1; simp at h1
  have hle : c.le ⟨c.β, c.tk.set t T', im'⟩ := ⟨fun i p h => h, fun u U h => by
      by_cases hu : t = u
      · subst hu
        rw [h1] at h
        simp only [Option.some.injEq] at h; subst h
        exact ⟨T', by simp [htl], hk, .inr hlt⟩
      · exact ⟨U, by show (c.tk.set t T')[u]? = some U; rw [List.getElem?_set, if_neg hu]; exact h, rfl, .inl rfl⟩, him⟩
  have hset : ∀ {u : Nat} {U : Tok}, (c.tk.set t T')[u]? = some U → (t = u ∧ U = T') ∨ (t ≠ u ∧ c.tk[u]? = some U) := by
    intro u U h
    rw [List.getElem?_set] at h
    by_cases hu : t = u
    · subst hu
      rw [if_pos rfl, if_pos htl] at h
      simp only [Option.some.injEq] at h
      exact .inl ⟨rfl, h.symm⟩
    · rw [if_neg hu] at h; exact .inr ⟨hu, h⟩
  refine ⟨hle, r.defers, r.size, fun i x v e1 e2 => (r.tmps i x v e1 e2).mono hle, hb, r.imle.trans him, ?_, hok, r.ownlen, ?_, by simp [r.tklen], ?_, ?_, ?_, fun g cs h => (r.glob g cs h).mono him, r.hole⟩
  · intro b o h
    show im' b o = im0 b o
    rw [hold b o (Nat.lt_of_lt_of_le h r.below.size) (fun e => by have := (r.tok t T b h1 e).new; omega)]
    exact r.imold b o h
  · intro i g k es e1 e2
    have ho := r.own i g k es e1 e2
    have hne : T.blk ≠ some g := fun e => r.apart.ot i t g k es T g e1 e2 h1 e rfl
    have hlt' := r.own_lt e1 e2
    exact ho.mono hle (fun o => by show im' g o = none; rw [hold g o hlt' hne]; exact ho.im o) (hw g hlt' hne)
  · intro u U h
    rcases hset h with ⟨rfl, rfl⟩ | ⟨hne, h⟩
    · show (st.tk.set t U.tail)[t]? = some U.tail
      simp [← r.tklen, htl]
    · show (st.tk.set t T'.tail)[u]? = some U.tail
      rw [List.getElem?_set, if_neg hne]; exact r.tail u U h
  · intro u U b h e2
    rcases hset h with ⟨rfl, rfl⟩ | ⟨hne, h⟩
    · exact (hblk b e2).2
    · have ho := r.tok u U b h e2
      have hne' : T.blk ≠ some b := fun e => r.apart.tt u t U T b b h h1 e2 e (Ne.symm hne) rfl
      have hlt' := r.tok_lt h e2
      obtain ⟨cs, ty, lo, hi, h3, h4⟩ := ho.blk
      exact ⟨ho.new, ho.room, fun o hh => by show im' b o = none; rw [hold b o hlt' hne']; exact ho.im o hh, cs, ty, lo, hi, by rw [hw b hlt' hne']; exact h3, h4⟩
  · refine ⟨r.apart.oo, ?_, ?_⟩
    · intro i u g k es U b e1 e2 h e4
      rcases hset h with ⟨rfl, rfl⟩ | ⟨hne, h⟩
      · rcases (hblk b e4).1 with e | e
        · exact r.apart.ot i t g k es T b e1 e2 h1 e
        · have := r.own_lt e1 e2; omega
      · exact r.apart.ot i u g k es U b e1 e2 h e4
    · intro u v U V b d e1 e2 e3 e4 hne
      rcases hset e1 with ⟨rfl, rfl⟩ | ⟨n1, f1⟩ <;> rcases hset e2 with ⟨rfl, rfl⟩ | ⟨n2, f2⟩
      · exact absurd rfl hne
      · rcases (hblk b e3).1 with e | e
        · exact r.apart.tt t v T V b d h1 f2 e e4 n2
        · have := r.tok_lt f2 e4; omega
      · rcases (hblk d e4).1 with e | e
        · exact r.apart.tt u t U T b d f1 h1 e3 e (Ne.symm n1)
        · have := r.tok_lt f1 e3; omega
      · exact r.apart.tt u v U V b d f1 f2 e3 e4 hne

/-! ### boxes -/

theorem below_alloc (w : World) (o : Obj) : Below w.heap.size w (w.alloc o) := (Below.refl _ _).alloc (Nat.le_refl _) o
theorem below_drew_alloc (w : World) (o : Obj) : Below w.heap.size w (w.drew.alloc o) := ((Below.refl _ w).drew).alloc (Nat.le_refl _) o
theorem heap_new (w : World) (o : Obj) : (w.alloc o).heap[w.heap.size]? = some o := by
  show (w.heap.push o)[w.heap.size]? = _
  simp

theorem Pw.box {xs : List AV} {us : List Value} (h : Pw c xs us) (hl : xs.all AV.leafy = true) {w' : World} {g : Nat} {ty : TypeId} (hb : w'.heap[g]? = some (.cells us.toArray ty (0, 0))) :
    ∃ cs ty lo hi, w'.heap[g]? = some (.cells cs ty (lo, hi)) ∧ (∀ o, o < cs.size → ¬ (lo ≤ o ∧ o < hi)) ∧ [AV.agg xs].length * xs.length ≤ cs.size ∧
      (∀ (i : Nat) (e : AV), [AV.agg xs][i]? = some e → e.leaves.length = xs.length) ∧ ∀ (i : Nat) (e : AV) (j : Nat) (x : AV), [AV.agg xs][i]? = some e → e.leaves[j]? = some x → ∃ v, cs[i * xs.length + j]? = some v ∧ VR c x v ∧ v.oneCell' = true := by
  refine ⟨us.toArray, ty, 0, 0, hb, fun o _ hh => by omega, by simp [h.1], ?_, ?_⟩
  · intro i e he
    cases i with
    | zero => simp only [List.getElem?_cons_zero, Option.some.injEq] at he; subst he; rfl
    | succ i => simp at he
  · intro i e j x he hx
    cases i with
    | succ i => simp at he
    | zero =>
      simp only [List.getElem?_cons_zero, Option.some.injEq] at he; subst he
      simp only [AV.leaves] at hx
      have hlt : j < xs.length := by
        rcases Nat.lt_or_ge j xs.length with h' | h'
        · exact h'
        · rw [List.getElem?_eq_none h'] at hx; simp at hx
      have hu : us[j]? = some (us[j]'(by rw [h.1]; exact hlt)) := by simp [h.1, hlt]
      have hv := h.2 j x _ hx hu
      refine ⟨_, by simp [hu], hv, hv.leafy ?_⟩
      exact List.all_eq_true.1 hl x (List.mem_of_getElem? hx)

theorem Rel.box (r : Rel w0 im0 c st a w) {xs : List AV} {us : List Value} (h : Pw c xs us) (hl : xs.all AV.leafy = true) (ty : TypeId) :
    ∃ c', c.le c' ∧ Rel w0 im0 c' { st with own := st.own ++ [some [.agg xs]] } a (w.alloc (.cells us.toArray ty)) ∧ VR c' (.ptr st.own.length 0 0) (.pointer (some ⟨w.heap.size, 0, none⟩)) := by
  obtain ⟨h1, h2⟩ := r.addOwn (below_alloc w (.cells us.toArray ty)) (g := w.heap.size) (k := xs.length) (es := [.agg xs]) (Nat.le_refl _) (h.box hl (heap_new w _))
  refine ⟨_, h1, h2, ?_⟩
  have : VR { c with β := c.β ++ [some (w.heap.size, xs.length)] } (.ptr st.own.length 0 0) (.pointer (some ⟨w.heap.size, 0 * xs.length + 0, none⟩)) := .ptr (by simp [← r.ownlen])
  simpa using this

/-- What a heavy operation does: a value is put, the state behind it. -/
def AAlloc (P : Program) (t : TypeId) (st : St) (K : St → AV → Prop) : Prop :=
  ∃ z, tzero P t = some z ∧ K { st with own := st.own ++ [some [.agg z]] } (.ptr st.own.length 0 0)
def ABox (x : AV) (st : St) (K : St → AV → Prop) : Prop :=
  x.plain = true ∧ x.leaves.all AV.leafy = true ∧ K { st with own := st.own ++ [some [.agg x.leaves]] } (.ptr st.own.length 0 0)

theorem alloc_ok (r : Rel w0 im0 c st a w) {t : TypeId} {K : St → AV → Prop} (hk : AAlloc P t st K) :
    ∃ v x w' c' st', (Instr.alloc t true (.tuple #[])).run P w = .ok v w' ∧ Rel w0 im0 c' st' a w' ∧ VR c' x v ∧ K st' x := by
  obtain ⟨z, hz, hk⟩ := hk
  obtain ⟨zv, hrun, hpw, hl, _⟩ := tzero_run (P := P) (w := w) (c := c) hz
  obtain ⟨c', h1, h2, h3⟩ := r.box hpw hl t
  refine ⟨_, _, _, c', _, ?_, h2, h3, hk⟩
  simp [Instr.alloc, hrun, newVar, newRow]

def lookN (t : Tmp) : List (Tmp × Nat) → Option Nat
  | [] => none
  | p :: l => if t = p.1 then some p.2 else lookN t l
def lookD : Option Tmp → List (Tmp × Nat) → Option Nat
  | none, _ => none
  | some t, l => lookN t l
def dropR (i : Nat) : List (Tmp × Nat) → List (Tmp × Nat)
  | [] => []
  | p :: l => if p.2 = i then dropR i l else p :: dropR i l
theorem lookN_mem {t : Tmp} {i : Nat} : ∀ {l : List (Tmp × Nat)}, lookN t l = some i → (t, i) ∈ l
  | [], h => by simp [lookN] at h
  | p :: l, h => by
    unfold lookN at h
    split at h
    · rename_i hd
      simp only [Option.some.injEq] at h; subst h; subst hd
      exact List.mem_cons_self ..
    · exact List.mem_cons_of_mem _ (lookN_mem h)
theorem lookD_mem {d : Option Tmp} {i : Nat} {l : List (Tmp × Nat)} (h : lookD d l = some i) : ∃ t, d = some t ∧ (t, i) ∈ l := by
  cases d with
  | none => simp [lookD] at h
  | some t => exact ⟨t, rfl, lookN_mem h⟩
theorem mem_dropR {i : Nat} {p : Tmp × Nat} : ∀ {l : List (Tmp × Nat)}, p ∈ dropR i l ↔ p ∈ l ∧ p.2 ≠ i
  | [] => by simp [dropR]
  | q :: l => by
    unfold dropR
    split
    · rename_i hq
      rw [mem_dropR (l := l)]
      constructor
      · rintro ⟨h1, h2⟩; exact ⟨List.mem_cons_of_mem _ h1, h2⟩
      · rintro ⟨h1, h2⟩
        rcases List.mem_cons.1 h1 with rfl | h1
        · exact absurd hq h2
        · exact ⟨h1, h2⟩
    · rename_i hq
      rw [List.mem_cons, mem_dropR (l := l), List.mem_cons]
      constructor
      · rintro (rfl | ⟨h1, h2⟩)
        · exact ⟨.inl rfl, hq⟩
        · exact ⟨.inr h1, h2⟩
      · rintro ⟨rfl | h1, h2⟩
        · exact .inl rfl
        · exact .inr ⟨h1, h2⟩
theorem Rel.boxAt (r : Rel w0 im0 c st a w) {xs : List AV} {us : List Value} (h : Pw c xs us) (hl : xs.all AV.leafy = true) (ty : TypeId) {i : Nat} (hi : c.β[i]? = some none) :
    ∃ c', c.le c' ∧ Rel w0 im0 c' { st with own := st.own.set i (some [.agg xs]), rsv := st.rsv.map (dropR i) } a (w.alloc (.cells us.toArray ty)) ∧ VR c' (.ptr i 0 0) (.pointer (some ⟨w.heap.size, 0, none⟩)) := by
  obtain ⟨h1, h2⟩ := r.fill (dropR i) (fun l d j hm => (mem_dropR.1 hm).imp id id) (below_alloc w (.cells us.toArray ty)) (g := w.heap.size) (k := xs.length) (es := [.agg xs]) (Nat.le_refl _) hi (h.box hl (heap_new w _))
  refine ⟨_, h1, h2, ?_⟩
  have hlt : i < c.β.length := (List.getElem?_eq_some_iff.1 hi).1
  have : VR { c with β := c.β.set i (some (w.heap.size, xs.length)) } (.ptr i 0 0) (.pointer (some ⟨w.heap.size, 0 * xs.length + 0, none⟩)) := .ptr (by simp [hlt])
  simpa using this

/-- A new variable: behind the others, or at the place that is kept for it. -/
def AAllocD (P : Program) (t : TypeId) (d : Option Tmp) (st : St) (K : St → AV → Prop) : Prop :=
  match st.rsv with
  | none => AAlloc P t st K
  | some l => ∃ z, tzero P t = some z ∧ ∃ i, lookD d l = some i ∧ st.own[i]? = some none ∧ K { st with own := st.own.set i (some [.agg z]), rsv := some (dropR i l) } (.ptr i 0 0)
theorem allocD_ok (r : Rel w0 im0 c st a w) {t : TypeId} {d : Option Tmp} {K : St → AV → Prop} (hk : AAllocD P t d st K) :
    ∃ v x w' c' st', (Instr.alloc t true (.tuple #[])).run P w = .ok v w' ∧ Rel w0 im0 c' st' a w' ∧ VR c' x v ∧ K st' x := by
  unfold AAllocD at hk
  split at hk
  · exact alloc_ok r hk
  · rename_i l hl
    obtain ⟨z, hz, i, hi, _, hk⟩ := hk
    obtain ⟨d', _, hmem⟩ := lookD_mem hi
    obtain ⟨zv, hrun, hpw, hlf, _⟩ := tzero_run (P := P) (w := w) (c := c) hz
    obtain ⟨c', h1, h2, h3⟩ := r.boxAt hpw hlf t (r.hole l d' i hl hmem)
    rw [hl] at h2
    refine ⟨_, _, _, c', _, ?_, h2, h3, hk⟩
    simp [Instr.alloc, hrun, newVar, newRow]

theorem box_ok (r : Rel w0 im0 c st a w) {t : TypeId} {x : AV} {v : Value} (h : VR c x v) {K : St → AV → Prop} (hk : ABox x st K) :
    ∃ v' y w' c' st', (Instr.box t v).run P w = .ok v' w' ∧ Rel w0 im0 c' st' a w' ∧ VR c' y v' ∧ K st' y := by
  obtain ⟨hp, hl, hk⟩ := hk
  obtain ⟨c', h1, h2, h3⟩ := r.box (h.leaves hp) hl t
  refine ⟨_, _, _, c', _, ?_, h2, h3, hk⟩
  simp [Instr.box, newVar, newRow]

/-! ### stores -/

theorem putV_length (us : List Value) : ∀ (vs : List Value) (o : Nat), (putV vs o us).length = vs.length := by
  induction us with
  | nil => intro vs o; rfl
  | cons u us ih => intro vs o; simp [putV, ih]
theorem putAll_length (us : List AV) : ∀ (vs : List AV) (o : Nat), (putAll vs o us).length = vs.length := by
  induction us with
  | nil => intro vs o; rfl
  | cons u us ih => intro vs o; simp [putAll, ih]

theorem putV_get (us : List Value) : ∀ (vs : List Value) (o j : Nat), o + us.length ≤ vs.length → (putV vs o us)[j]? = if o ≤ j ∧ j < o + us.length then us[j - o]? else vs[j]? := by
  induction us with
  | nil => intro vs o j h; simp [putV]; omega
  | cons u us ih =>
    intro vs o j h
    simp only [List.length_cons] at h ⊢
    rw [putV, ih _ _ _ (by simp; omega)]
    by_cases h1 : o + 1 ≤ j ∧ j < o + 1 + us.length
    · rw [if_pos h1, if_pos (by omega)]
      rw [show j - o = (j - (o + 1)) + 1 by omega]; simp
    · rw [if_neg h1, List.getElem?_set]
      by_cases h2 : o = j
      · subst h2
        rw [if_pos rfl, if_pos (by omega), if_pos (by omega)]; simp
      · rw [if_neg h2, if_neg (by omega)]
theorem putAll_get (us : List AV) : ∀ (vs : List AV) (o j : Nat), o + us.length ≤ vs.length → (putAll vs o us)[j]? = if o ≤ j ∧ j < o + us.length then us[j - o]? else vs[j]? := by
  induction us with
  | nil => intro vs o j h; simp [putAll]; omega
  | cons u us ih =>
    intro vs o j h
    simp only [List.length_cons] at h ⊢
    rw [putAll, ih _ _ _ (by simp; omega)]
    by_cases h1 : o + 1 ≤ j ∧ j < o + 1 + us.length
    · rw [if_pos h1, if_pos (by omega)]
      rw [show j - o = (j - (o + 1)) + 1 by omega]; simp
    · rw [if_neg h1, List.getElem?_set]
      by_cases h2 : o = j
      · subst h2
        rw [if_pos rfl, if_pos (by omega), if_pos (by omega)]; simp
      · rw [if_neg h2, if_neg (by omega)]

theorem run_storePut (g o : Nat) (t : TypeId) (lo hi : Nat) : ∀ (vs : List Value) (i : Nat) (cur : List Value) (w : World), w.heap[g]? = some (.cells cur.toArray t (lo, hi)) → (∀ o, o < cur.length → ¬ (lo ≤ o ∧ o < hi)) →
    o + i + vs.length ≤ cur.length → (∀ v ∈ vs, v.oneCell' = true) → (storeCells ⟨g, o, none⟩ vs i).run P w = .ok () (w.setRow g (putV cur (o + i) vs).toArray)
  | [], i, cur, w, hg, _, _, _ => by
    simp only [storeCells, putV]
    rw [setRow_self w g cur.toArray t (lo, hi) hg]
    rfl
  | v :: rest, i, cur, w, hg, hf, hl, h1 => by
    have hi' : o + i < cur.length := by simp at hl; omega
    have hcell : w.cell? ⟨g, o + i, none⟩ = some cur[o + i] := by simp [World.cell?, hg, hi']
    have hfro : w.frozen? ⟨g, o + i, none⟩ = false := by
      have := hf (o + i) hi'
      simp only [World.frozen?, hg, Bool.and_eq_false_iff, decide_eq_false_iff_not]
      omega
    have hset : cur.toArray.setIfInBounds (o + i) v = (cur.set (o + i) v).toArray := by simp
    have hst : (store ((⟨g, o, none⟩ : Addr).add i) v).run P w = .ok () (w.setRow g (cur.set (o + i) v).toArray) := by
      rw [add_none, run_store P w _ v _ (h1 v (by simp)), hcell]
      simp only [hfro, Bool.false_eq_true, if_false]
      rw [setCell_eq_setRow w g (o + i) cur.toArray t (lo, hi) v hg, hset]
    have ih := run_storePut g o t lo hi rest (i + 1) (cur.set (o + i) v) (w.setRow g (cur.set (o + i) v).toArray) (setRow_heap w g cur.toArray _ t _ hg) (by simpa using hf) (by simp at hl ⊢; omega) (fun x hx => h1 x (by simp [hx]))
    simp only [storeCells, Sem.run_bind, hst, Result.andThen_ok, ih, setRow_setRow, putV]
    rw [show o + (i + 1) = o + i + 1 by omega]

/-- An element behind a store. -/
def stEl (e : AV) (off : Nat) (x : AV) : AV := if off = 0 ∧ x.leaves.length = e.leaves.length then x else .agg (putAll e.leaves off x.leaves)

def AStore (P : Program) (t : TypeId) (addr x : AV) (st : St) (K : St → Prop) : Prop :=
  match addr with
  | .ptr id idx off => ∃ n es e, tsz P t = some n ∧ st.own[id]? = some (some es) ∧ es[idx]? = some e ∧ x.plain = true ∧ x.leaves.all AV.leafy = true ∧ x.leaves.length = n ∧ off + n ≤ e.leaves.length ∧
      K { st with own := st.own.set id (some (es.set idx (stEl e off x))) }
  | _ => False

theorem stEl_leaves {e x : AV} {off : Nat} (h : off + x.leaves.length ≤ e.leaves.length) (j : Nat) : (stEl e off x).leaves.length = e.leaves.length ∧ (stEl e off x).leaves[j]? = if off ≤ j ∧ j < off + x.leaves.length then x.leaves[j - off]? else e.leaves[j]? := by
  unfold stEl
  split
  · rename_i hh
    obtain ⟨rfl, hl⟩ := hh
    refine ⟨hl, ?_⟩
    by_cases hj : j < x.leaves.length
    · rw [if_pos (by omega)]; simp
    · rw [if_neg (by omega), List.getElem?_eq_none (by omega), List.getElem?_eq_none (by omega)]
  · exact ⟨putAll_length _ _ _, putAll_get _ _ _ _ h⟩

theorem store_ok (r : Rel w0 im0 c st a w) {t : TypeId} {addr x : AV} {va v : Value} (ha : VR c addr va) (hx : VR c x v) {K : St → Prop} (hk : AStore P t addr x st K) :
    ∃ w' st', (Instr.storeAt t va v).run P w = .ok () w' ∧ Rel w0 im0 c st' a w' ∧ K st' := by
  unfold AStore at hk
  split at hk
  case h_2 => exact hk.elim
  rename_i id idx off
  obtain ⟨n, es, e, hs, hes, he, hp, hl, hn, hle, hk⟩ := hk
  obtain ⟨g, q, hb, rfl⟩ := ha.inv_ptr
  have ho := r.own id g q es hb hes
  obtain ⟨cs, ty, lo, hi, hblk, hfro, hsz, hkk, hcell⟩ := ho.blk
  have hq := hkk idx e he
  have hidx : idx < es.length := by
    rcases Nat.lt_or_ge idx es.length with h' | h'
    · exact h'
    · rw [List.getElem?_eq_none h'] at he; simp at he
  have hpw := hx.leaves hp
  have hvl : v.cells.toList.length = n := by rw [hpw.1, hn]
  have hone : ∀ u ∈ v.cells.toList, u.oneCell' = true := by
    intro u hu
    obtain ⟨j, hj⟩ := List.getElem?_of_mem hu
    have hjl : j < x.leaves.length := by
      rw [← hpw.1]
      rcases Nat.lt_or_ge j v.cells.toList.length with h' | h'
      · exact h'
      · rw [List.getElem?_eq_none h'] at hj; simp at hj
    have hxj : x.leaves[j]? = some x.leaves[j] := by simp [hjl]
    exact (hpw.2 j _ u hxj hj).leafy (List.all_eq_true.1 hl _ (List.mem_of_getElem? hxj))
  have hmul : idx * q + q ≤ es.length * q := by rw [← Nat.succ_mul]; exact Nat.mul_le_mul_right q hidx
  have hcs : cs = cs.toList.toArray := by simp
  have hsz' : es.length * q ≤ cs.toList.length := by simpa using hsz
  have hfit : idx * q + off + 0 + v.cells.toList.length ≤ cs.toList.length := by omega
  have hrun := run_storePut (P := P) g (idx * q + off) ty lo hi v.cells.toList 0 cs.toList w (by rw [← hcs]; exact hblk) (by simpa using hfro) hfit hone
  rw [Nat.add_zero] at hrun
  refine ⟨w.setRow g (putV cs.toList (idx * q + off) v.cells.toList).toArray, _, ?_, ?_, hk⟩
  · simp only [Instr.storeAt, Instr.sureAddr, storeVar, Sem.run_bind, Sem.run_pure, Result.andThen_ok, tsz_run hs]
    have hvs : v.cells.size = n := by simpa using hvl
    simp [hvs, hrun]
  · refine r.setOwn hb hes (fun b hne => setRow_other w g b _ hne) (below_setRow r.below ho.new _) ⟨_, ty, lo, hi, setRow_heap w g cs _ ty (lo, hi) hblk, ?_, ?_, ?_, ?_⟩
    · intro o hlt; exact hfro o (by simpa [putV_length] using hlt)
    · simp only [List.length_set, List.size_toArray, putV_length]; simpa using hsz
    · intro i y hy
      rw [List.getElem?_set] at hy
      by_cases hi' : idx = i
      · subst hi'
        rw [if_pos rfl, if_pos hidx] at hy
        simp only [Option.some.injEq] at hy; subst hy
        rw [(stEl_leaves (by omega) 0).1]; exact hq
      · rw [if_neg hi'] at hy; exact hkk i y hy
    · intro i y j z hy hz
      simp only [List.getElem?_toArray]
      rw [putV_get _ _ _ _ (by omega)]
      have hyl : y.leaves.length = q := by
        rw [List.getElem?_set] at hy
        by_cases hi' : idx = i
        · subst hi'
          rw [if_pos rfl, if_pos hidx] at hy
          simp only [Option.some.injEq] at hy; subst hy
          rw [(stEl_leaves (by omega) 0).1]; exact hq
        · rw [if_neg hi'] at hy; exact hkk i y hy
      have hjq : j < q := by
        rw [← hyl]
        rcases Nat.lt_or_ge j y.leaves.length with h' | h'
        · exact h'
        · rw [List.getElem?_eq_none h'] at hz; simp at hz
      rw [List.getElem?_set] at hy
      by_cases hi' : idx = i
      · subst hi'
        rw [if_pos rfl, if_pos hidx] at hy
        simp only [Option.some.injEq] at hy; subst hy
        rw [(stEl_leaves (by omega) j).2] at hz
        by_cases hin : off ≤ j ∧ j < off + x.leaves.length
        · rw [if_pos hin] at hz
          rw [if_pos (by omega), show idx * q + j - (idx * q + off) = j - off by omega]
          have hlt : j - off < v.cells.toList.length := by omega
          have hu : v.cells.toList[j - off]? = some v.cells.toList[j - off] := by simp only [List.getElem?_eq_getElem hlt]
          refine ⟨_, hu, hpw.2 _ z _ hz hu, hone _ (List.mem_of_getElem? hu)⟩
        · rw [if_neg hin] at hz
          rw [if_neg (by omega)]
          obtain ⟨u, h1, h2, h3⟩ := hcell idx e j z he hz
          exact ⟨u, by simpa using h1, h2, h3⟩
      · rw [if_neg hi'] at hy
        have hne : ¬ (idx * q + off ≤ i * q + j ∧ i * q + j < idx * q + off + v.cells.toList.length) := by
          intro ⟨h1, h2⟩
          rcases Nat.lt_or_ge i idx with h | h
          · have : i * q + q ≤ idx * q := by rw [← Nat.succ_mul]; exact Nat.mul_le_mul_right q h
            omega
          · have h : idx + 1 ≤ i := by omega
            have : idx * q + q ≤ i * q := by rw [← Nat.succ_mul]; exact Nat.mul_le_mul_right q h
            omega
        rw [if_neg hne]
        obtain ⟨u, h1, h2, h3⟩ := hcell i y j z hy hz
        exact ⟨u, by simpa using h1, h2, h3⟩
end
end Go.Abs
