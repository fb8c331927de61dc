/- Literals of slices, appending, a string's bytes. -/
import Derived.Test.YtgiomlgkccjhfaaDoorAbsG
namespace Go.Abs
open Go Go.RowKit
set_option linter.unusedVariables false
set_option linter.unusedSimpArgs false

section
variable {P : Program} {w0 : World} {im0 : Im} {c : Ctx} {st : St} {a : Act} {w : World}

/-- The cells of elements, one behind the other. -/
def Cells (im : Im) (k : Nat) (es : List AV) (cs : List Value) : Prop :=
  (∀ (i : Nat) (e : AV), es[i]? = some e → e.leaves.length = k) ∧
  ∀ (i : Nat) (e : AV) (j : Nat) (y : AV), es[i]? = some e → e.leaves[j]? = some y → ∃ u, cs[i * k + j]? = some u ∧ VR0 im y u ∧ u.oneCell' = true

theorem idx_lt {i j k n : Nat} (hi : i < n) (hj : j < k) : i * k + j < n * k := by
  have : i * k + k ≤ n * k := by rw [← Nat.succ_mul]; exact Nat.mul_le_mul_right k hi
  omega

theorem lt_of_get {α : Type} {l : List α} {i : Nat} {x : α} (h : l[i]? = some x) : i < l.length := by
  rcases Nat.lt_or_ge i l.length with h' | h'
  · exact h'
  · rw [List.getElem?_eq_none h'] at h; simp at h

theorem Cells.mono {im im' : Im} (h : im.le im') {k : Nat} {es : List AV} {cs : List Value} (hc : Cells im k es cs) : Cells im' k es cs :=
  ⟨hc.1, fun i e j y h1 h2 => let ⟨u, a, b, d⟩ := hc.2 i e j y h1 h2; ⟨u, a, b.mono h, d⟩⟩

theorem Cells.append {im : Im} {k : Nat} {es xs : List AV} {cs ds : List Value} (h1 : Cells im k es cs) (hl : cs.length = es.length * k) (h2 : Cells im k xs ds) : Cells im k (es ++ xs) (cs ++ ds) := by
  refine ⟨fun i e he => ?_, fun i e j y he hy => ?_⟩
  · rcases getElem?_app _ _ _ _ he with ⟨_, he⟩ | ⟨_, he⟩
    · exact h1.1 i e he
    · exact h2.1 _ e he
  · rcases getElem?_app _ _ _ _ he with ⟨hlt, he⟩ | ⟨hge, he⟩
    · obtain ⟨u, a, b⟩ := h1.2 i e j y he hy
      exact ⟨u, by rw [List.getElem?_append_left (lt_of_get a)]; exact a, b⟩
    · obtain ⟨u, a, b⟩ := h2.2 _ e j y he hy
      have hik : es.length * k ≤ i * k := Nat.mul_le_mul_right k hge
      refine ⟨u, ?_, b⟩
      rw [List.getElem?_append_right (by omega), hl, show i * k + j - es.length * k = (i - es.length) * k + j by rw [Nat.sub_mul]; omega]
      exact a

theorem VR0.of_cells {im : Im} {k : Nat} {es : List AV} {cs : List Value} (h : Cells im k es cs) {b o cap : Nat} (hc : es.length ≤ cap) (hm : ∀ p u, p < es.length * k → cs[p]? = some u → im b (o + p) = some u) :
    VR0 im (.sl none k es) (.slice (some ⟨b, o, none⟩) es.length cap) := by
  have get : ∀ (i : Nat) (e : AV) (j : Nat) (y : AV), es[i]? = some e → e.leaves[j]? = some y → ∃ u, cs[i * k + j]? = some u ∧ cs.getD (i * k + j) undef = u ∧ VR0 im y u ∧ u.oneCell' = true := by
    intro i e j y h1 h2
    obtain ⟨u, a, b⟩ := h.2 i e j y h1 h2
    exact ⟨u, a, by simp [List.getD_eq_getElem?_getD, a], b⟩
  refine .sl k es b o cap (fun i j => cs.getD (i * k + j) undef) hc h.1 ?_ ?_ ?_
  · intro i e j y h1 h2
    obtain ⟨u, a, d, _⟩ := get i e j y h1 h2
    rw [d, Nat.add_assoc]
    exact hm _ u (idx_lt (lt_of_get h1) (by have := h.1 i e h1; rw [← this]; exact lt_of_get h2)) a
  · intro i e j y h1 h2
    obtain ⟨u, a, d, _, h3⟩ := get i e j y h1 h2
    rw [d]; exact h3
  · intro i e j y h1 h2
    obtain ⟨u, a, d, h3, _⟩ := get i e j y h1 h2
    rw [d]; exact h3

/-- A new slice by its content, with a token of its own. -/
theorem Rel.newTok {w' : World} (r : Rel w0 im0 c st a w) (hb : Below w.heap.size w w') {g k cap : Nat} {es : List AV} {cs : Array Value} {ty : TypeId} {lo hi : Nat} (hg : w.heap.size ≤ g)
    (hblk : w'.heap[g]? = some (.cells cs ty (lo, hi))) (hf : ∀ o, o < cs.size → ¬ (lo ≤ o ∧ o < hi)) (hcap : cap * k ≤ cs.size) (hle : es.length ≤ cap) (hc : Cells c.im k es cs.toList) :
    ∃ c', c.le c' ∧ Rel w0 im0 c' { st with tk := st.tk ++ [es.length] } a w' ∧ VR c' (.sl (some st.tk.length) k es) (.slice (some ⟨g, 0, none⟩) es.length cap) := by
  let im' : Im := fun b o => if b = g then (if o < es.length * k then cs.toList[o]? else none) else c.im b o
  have him : c.im.le im' := fun b o x h => by
    have := r.im_lt h
    show (if b = g then _ else c.im b o) = some x
    rw [if_neg (by omega)]; exact h
  have hcs : es.length * k ≤ cs.size := Nat.le_trans (Nat.mul_le_mul_right k hle) hcap
  obtain ⟨h1, h2⟩ := r.addToks hb (im' := im') (tks := [⟨some g, es.length, cap, k⟩]) him
    (fun b o x h => by
      by_cases hbg : b = g
      · subst hbg
        simp only [im', if_true] at h
        split at h
        · simp only [World.cell?, hblk, Option.isSome_none, Bool.false_eq_true, if_false]
          simpa using h
        · simp at h
      · simp only [im', if_neg hbg] at h
        rw [cell_of_block (hb.block b (r.im_lt h))]
        exact r.imok b o x h)
    (fun b o hlt => by show (if b = g then _ else c.im b o) = _; rw [if_neg (by omega)])
    ⟨fun i T b hT hTb => by
      cases i with
      | succ i => simp at hT
      | zero =>
        simp only [List.getElem?_cons_zero, Option.some.injEq] at hT; subst hT
        simp only [Option.some.injEq] at hTb; subst hTb
        exact ⟨hg, hle, fun o ho => by show (if g = g then _ else _) = none; rw [if_pos rfl, if_neg (Nat.not_lt.2 ho)], cs, ty, lo, hi, hblk, hf, hcap⟩,
     fun i j T U b d hT hU _ _ hij => by
      cases i with
      | succ i => simp at hT
      | zero => cases j with
        | zero => exact absurd rfl hij
        | succ j => simp at hU⟩
  refine ⟨_, h1, h2, ?_⟩
  refine .tok (T := ⟨some g, es.length, cap, k⟩) (by simp [← r.tklen]) ?_ rfl (Nat.le_refl _) (fun _ => .inr ⟨g, rfl, rfl⟩)
  exact VR0.of_cells (hc.mono him) hle (fun p u hp hu => by show (if g = g then _ else _) = _; rw [if_pos rfl, Nat.zero_add, if_pos hp]; exact hu)

/-! ### literals -/

def idxFrom : Nat → List (Nat × AV) → Bool
  | _, [] => true
  | i, p :: ps => decide (p.1 = i) && idxFrom (i + 1) ps
def cleanAll (n : Nat) : List (Nat × AV) → Option (List AV)
  | [] => some []
  | p :: ps => match p.2.clean, cleanAll n ps with
    | some y, some ys => if y.leaves.length = n then some (y :: ys) else none
    | _, _ => none
/-- A slice type: its element, cells, bytes. -/
def appInfo (P : Program) (t : TypeId) : Option (TypeId × Nat × Nat) :=
  match P.underlying t with
  | some (.slice e) =>
    match P.info? e, tzero P e with
    | some i, some z => if 0 < i.size ∧ z.length = i.size then some (e, i.size, i.bytes) else none
    | _, _ => none
  | _ => none

theorem appInfo_ok {t e : TypeId} {k n : Nat} (h : appInfo P t = some (e, k, n)) : P.underlying t = some (.slice e) ∧ tsz P e = some k ∧ 0 < k ∧
    ∃ i zv, P.info? e = some i ∧ i.zero = some zv ∧ i.size = k ∧ i.bytes = n ∧ zv.cells.size = k := by
  unfold appInfo at h
  split at h
  · rename_i e' hu
    split at h
    · rename_i i z hi hz
      split at h
      · rename_i hc
        simp only [Option.some.injEq, Prod.mk.injEq] at h
        obtain ⟨rfl, rfl, rfl⟩ := h
        obtain ⟨zv, _, hpw, _, i', hi', hzv⟩ := tzero_run (P := P) (w := default) (c := ⟨[], [], fun _ _ => none⟩) hz
        rw [hi] at hi'
        simp only [Option.some.injEq] at hi'; subst hi'
        refine ⟨hu, by simp [tsz, hi], hc.1, i, zv, hi, hzv, rfl, rfl, ?_⟩
        have := hpw.1
        simp at this; omega
      · simp at h
    · simp at h
  · simp at h

theorem fill_seq (n : Nat) : ∀ (qs : List (Nat × Value)) (s : Nat) (vs : List Value), (∀ (i : Nat) (q : Nat × Value), qs[i]? = some q → q.1 = s + i ∧ q.2.cells.size = n) → (s + qs.length) * n ≤ vs.length →
    ∃ us : List Value, Instr.fill (fun i => some (i * n, n)) vs.toArray qs = some us.toArray ∧ us.length = vs.length ∧ (∀ p, p < s * n → us[p]? = vs[p]?) ∧
      ∀ (i : Nat) (q : Nat × Value) (j : Nat), qs[i]? = some q → j < n → us[(s + i) * n + j]? = q.2.cells.toList[j]?
  | [], s, vs, _, _ => ⟨vs, rfl, rfl, fun _ _ => rfl, fun i q j h => by simp at h⟩
  | q :: qs, s, vs, hq, hl => by
    obtain ⟨hq1, hq2⟩ := hq 0 q rfl
    rw [Nat.add_zero] at hq1
    simp only [List.length_cons] at hl
    have hfit : s * n + n ≤ vs.length := by
      have : (s + 1) * n ≤ (s + (qs.length + 1)) * n := Nat.mul_le_mul_right n (by omega)
      rw [Nat.succ_mul] at this; omega
    have hpl : (putV vs (s * n) q.2.cells.toList).length = vs.length := putV_length _ _ _
    obtain ⟨us, h1, h2, h3, h4⟩ := fill_seq n qs (s + 1) (putV vs (s * n) q.2.cells.toList)
      (fun i p hp => by obtain ⟨a, b⟩ := hq (i + 1) p hp; exact ⟨by omega, b⟩) (by rw [hpl, show s + 1 + qs.length = s + (qs.length + 1) by omega]; exact hl)
    have hput : q.2.cells.toList.length = n := by simpa using hq2
    refine ⟨us, ?_, by rw [h2, hpl], ?_, ?_⟩
    · simp only [Instr.fill, hq1]
      rw [if_neg (by simp [hq2]; omega), ← h1]
      congr 1
      have := putV_foldl q.2.cells.toList vs (s * n) 0
      rw [Nat.add_zero] at this
      rw [← this, ← Array.foldl_toList]
      simp
    · intro p hp
      rw [h3 p (by rw [Nat.succ_mul]; omega), putV_get _ _ _ _ (by omega), if_neg (by omega)]
    · intro i p j hp hj
      cases i with
      | succ i =>
        have := h4 i p j (by simpa using hp) hj
        rw [← this]; congr 2; rw [show s + 1 + i = s + (i + 1) by omega]
      | zero =>
        simp only [List.getElem?_cons_zero, Option.some.injEq] at hp; subst hp
        rw [Nat.add_zero, h3 _ (by rw [Nat.succ_mul]; omega), putV_get _ _ _ _ (by omega), if_pos (by omega)]
        congr 1; omega

def AMkSlice (P : Program) (t : TypeId) (len : Nat) (ps : List (Nat × AV)) (st : St) (K : St → AV → Prop) : Prop :=
  ∃ e k n ys, appInfo P t = some (e, k, n) ∧ ps.length = len ∧ idxFrom 0 ps = true ∧ len * k ≤ 16777216 ∧ cleanAll k ps = some ys ∧
    K { st with tk := st.tk ++ [ys.length] } (.sl (some st.tk.length) k ys)

theorem idxFrom_ok : ∀ {ps : List (Nat × AV)} {s : Nat}, idxFrom s ps = true → ∀ (i : Nat) (p : Nat × AV), ps[i]? = some p → p.1 = s + i
  | [], _, _, i, p, h => by simp at h
  | q :: ps, s, h, i, p, hp => by
    simp only [idxFrom, Bool.and_eq_true, decide_eq_true_eq] at h
    cases i with
    | zero => simp only [List.getElem?_cons_zero, Option.some.injEq] at hp; subst hp; exact h.1
    | succ i => have := idxFrom_ok h.2 i p (by simpa using hp); omega

theorem cleanAll_ok {n : Nat} : ∀ {ps : List (Nat × AV)} {ys : List AV}, cleanAll n ps = some ys → ys.length = ps.length ∧ ∀ (i : Nat) (y : AV), ys[i]? = some y → ∃ p, ps[i]? = some p ∧ p.2.clean = some y ∧ y.leaves.length = n
  | [], ys, h => by simp only [cleanAll, Option.some.injEq] at h; subst h; simp
  | p :: ps, ys, h => by
    simp only [cleanAll] at h
    split at h
    · rename_i y ys' h1 h2
      split at h
      · rename_i hn
        simp only [Option.some.injEq] at h; subst h
        obtain ⟨hl, ih⟩ := cleanAll_ok h2
        refine ⟨by simp [hl], fun i z hz => ?_⟩
        cases i with
        | zero => simp only [List.getElem?_cons_zero, Option.some.injEq] at hz; subst hz; exact ⟨p, rfl, h1, hn⟩
        | succ i => obtain ⟨q, e1, e2⟩ := ih i z (by simpa using hz); exact ⟨q, by simpa using e1, e2⟩
      · simp at h
    · simp at h

theorem mkSlice_ok (r : Rel w0 im0 c st a w) {t : TypeId} {len : Nat} {ps : Array (Nat × Operand)} {K : St → AV → Prop} (hk : AMkSlice P t len (evParts st ps) st K) :
    ∃ v x w' c' st', (Instr.buildSlice t len (ps.map fun (i, x) => (i, a.eval x))).run P w = .ok v w' ∧ Rel w0 im0 c' st' a w' ∧ VR c' x v ∧ K st' x := by
  obtain ⟨e, k, n, ys, hai, hlen, hidx, hsmall, hclean, hk⟩ := hk
  obtain ⟨hu, hs, hk0, i, zv, hi, hz, hsize, hbytes, hzs⟩ := appInfo_ok hai
  obtain ⟨hyl, hys⟩ := cleanAll_ok hclean
  have hqs : ∀ (j : Nat) (q : Nat × Value), (ps.map fun (i, x) => (i, a.eval x)).toList[j]? = some q → ∃ o : Nat × Operand, ps.toList[j]? = some o ∧ q = (o.1, a.eval o.2) := by
    intro j q hq
    simp only [Array.toList_map, List.getElem?_map] at hq
    cases hp : ps.toList[j]? with
    | none => simp [hp] at hq
    | some o => simp only [hp, Option.map_some, Option.some.injEq] at hq; exact ⟨o, rfl, hq.symm⟩
  have hpl : ps.size = len := by simpa [evParts] using hlen
  have clean_at : ∀ (j : Nat) (o : Nat × Operand), ps.toList[j]? = some o → ∃ y, ys[j]? = some y ∧ (st.ev o.2).clean = some y ∧ y.leaves.length = k ∧ o.1 = j := by
    intro j o ho
    have hj : j < ys.length := by rw [hyl]; simp [evParts]; exact (by simpa using lt_of_get ho)
    have hy : ys[j]? = some ys[j] := by simp [hj]
    obtain ⟨p, h1, h2, h3⟩ := hys j _ hy
    have hp : (evParts st ps)[j]? = some (o.1, st.ev o.2) := by simp only [evParts, List.getElem?_map, ho, Option.map_some]
    rw [hp] at h1
    simp only [Option.some.injEq] at h1
    refine ⟨_, hy, by rw [← h1] at h2; exact h2, h3, ?_⟩
    have := idxFrom_ok hidx j _ hp
    simpa using this
  have hq : ∀ (j : Nat) (q : Nat × Value), (ps.map fun (i, x) => (i, a.eval x)).toList[j]? = some q → q.1 = 0 + j ∧ q.2.cells.size = k := by
    intro j q h
    obtain ⟨o, ho, rfl⟩ := hqs j q h
    obtain ⟨y, h1, h2, h3, h4⟩ := clean_at j o ho
    refine ⟨by simpa using h4, ?_⟩
    have := (clean_ok (r.ev o.2) h2).2.1
    simp at this; simp [this, h3]
  let zs : Array Value := (Array.range (len * k)).map (fun p => (if len * k = 0 then (#[] : Array Value) else zv.cells)[p % (if len * k = 0 then (#[] : Array Value) else zv.cells).size]!)
  have hzl : zs.toList.length = len * k := by simp [zs]
  obtain ⟨us, hf, hul, _, hus⟩ := fill_seq k (ps.map fun (i, x) => (i, a.eval x)).toList 0 zs.toList hq (by rw [hzl]; simp [hpl])
  have hrun : (Instr.buildSlice t len (ps.map fun (i, x) => (i, a.eval x))).run P w = .ok (.slice (some ⟨w.heap.size, 0, none⟩) len len) (w.alloc (.cells us.toArray e)) := by
    have hno : ¬ (len * k > 2 ^ 24) := by omega
    have hzz : zs.toList.toArray = zs := by simp
    rw [hzz] at hf
    unfold Instr.buildSlice
    by_cases h0 : len * k = 0
    · have hf' : Instr.fill (fun i => some (i * k, k)) ((Array.range (len * k)).map (fun p => (#[] : Array Value)[p % (#[] : Array Value).size]!)) (ps.map fun (i, x) => (i, a.eval x)).toList = some us.toArray := by
        rw [← hf]; simp only [zs, if_pos h0]
      simp only [Sem.run_bind, underlying_run hu, Result.andThen_ok, tsz_run hs, Sem.run_ite, if_neg hno, if_pos h0, Sem.run_pure, hf']
      simp [newRow]
    · have hf' : Instr.fill (fun i => some (i * k, k)) ((Array.range (len * k)).map (fun p => zv.cells[p % zv.cells.size]!)) (ps.map fun (i, x) => (i, a.eval x)).toList = some us.toArray := by
        rw [← hf]; simp only [zs, if_neg h0]
      have hzr : (zeroValue e).run P w = .ok zv w := by simp [zeroValue, typeInfo, hi, hz]
      simp only [Sem.run_bind, underlying_run hu, Result.andThen_ok, tsz_run hs, Sem.run_ite, if_neg hno, if_neg h0, Sem.run_pure, hzr, hf']
      simp [newRow]
  have hyl' : ys.length = len := by rw [hyl]; exact hlen
  obtain ⟨c', h1, h2, h3⟩ := r.newTok (below_alloc w (.cells us.toArray e)) (g := w.heap.size) (k := k) (cap := len) (es := ys) (Nat.le_refl _) (heap_new w _) (fun o _ hh => by omega)
    (by simp [hul, hzl]) (by omega) ⟨fun j y hy => by obtain ⟨p, _, _, h⟩ := hys j y hy; exact h, fun j y q z hy hz' => by
      have hj : j < ps.toList.length := by have := lt_of_get hy; simp [hpl]; omega
      obtain ⟨y', e1, e2, e3, e4⟩ := clean_at j ps.toList[j] (by simp)
      rw [hy] at e1
      simp only [Option.some.injEq] at e1; subst e1
      have hco := clean_ok (r.ev ps.toList[j].2) e2
      have hq' : q < k := by rw [← e3]; exact lt_of_get hz'
      have hlt : q < (a.eval ps.toList[j].2).cells.toList.length := by rw [hco.2.1, e3]; exact hq'
      have hu' := hus j (ps.toList[j].1, a.eval ps.toList[j].2) q (by simp only [Array.toList_map, List.getElem?_map, List.getElem?_eq_getElem hj, Option.map_some]) hq'
      rw [Nat.zero_add] at hu'
      refine ⟨(a.eval ps.toList[j].2).cells.toList[q], by rw [hu']; simp only [List.getElem?_eq_getElem hlt], ?_⟩
      exact hco.2.2 q z _ hz' (by simp only [List.getElem?_eq_getElem hlt])⟩
  rw [hyl'] at h3 h2
  rw [hyl'] at hk
  exact ⟨_, _, _, c', _, hrun, h2, h3, hk⟩
end
end Go.Abs
