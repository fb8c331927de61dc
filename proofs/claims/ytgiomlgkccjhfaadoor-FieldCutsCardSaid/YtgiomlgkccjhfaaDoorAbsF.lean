/- The memory that a call makes and writes: how the relation goes on. -/
import Derived.Test.YtgiomlgkccjhfaaDoorAbsE
import Derived.Laws.CopyOwn
namespace Go.Abs
open Go Go.RowKit
set_option linter.unusedVariables false
set_option linter.unusedSimpArgs false

section
variable {P : Program} {w0 : World} {im0 : Im} {c : Ctx} {st : St} {a : Act} {w : World}

theorem VR.leafy {x : AV} {v : Value} (h : VR c x v) (hl : x.leafy = true) : v.oneCell' = true := by
  cases x with
  | any => simp [AV.leafy] at hl
  | v x => cases h.inv_v; simpa [AV.leafy] using hl
  | agg cs => simp [AV.leafy] at hl
  | tup cs => simp [AV.leafy] at hl
  | nilS => cases h.inv_nilS; rfl
  | sl t k es => obtain ⟨b, cap, rfl, _⟩ := h.sl_base.inv_sl; rfl
  | mu => obtain ⟨g, cap, _, _, rfl⟩ := h.inv_mu; rfl
  | ptr => obtain ⟨g, k, _, rfl⟩ := h.inv_ptr; rfl
  | rptr => obtain ⟨b, o, rfl, _⟩ := h.inv_rptr; rfl
  | fn => obtain ⟨vs, rfl, _⟩ := h.inv_fn; rfl

/-- What a leaf is where nothing is own. -/
def AV.clean1 : AV → Option AV
  | .v x => if x.oneCell' = true then some (.v x) else none
  | .nilS => some .nilS
  | .sl _ k es => some (.sl none k es)
  | .rptr cs => some (.rptr cs)
  | .fn f [] => some (.fn f [])
  | _ => none
def cleanL : List AV → Option (List AV)
  | [] => some []
  | x :: xs => match x.clean1, cleanL xs with
    | some y, some ys => some (y :: ys)
    | _, _ => none
def AV.clean : AV → Option AV
  | .agg cs => (cleanL cs).map .agg
  | x => x.clean1

theorem clean1_ok {x y : AV} {v : Value} (h : VR c x v) (hc : x.clean1 = some y) : VR0 c.im y v ∧ v.oneCell' = true ∧ y.leaves = [y] ∧ x.leaves = [x] ∧ v.cells = #[v] := by
  cases x <;> simp only [AV.clean1] at hc <;> first | (simp at hc; done) | skip
  case v x =>
    split at hc
    · rename_i h1
      simp only [Option.some.injEq] at hc; subst hc
      cases h.inv_v
      exact ⟨.v _, h1, rfl, rfl, by cases v <;> first | rfl | (simp [Value.oneCell'] at h1)⟩
    · simp at hc
  case nilS =>
    simp only [Option.some.injEq] at hc; subst hc
    cases h.inv_nilS
    exact ⟨.nilS, rfl, rfl, rfl, rfl⟩
  case sl t k es =>
    simp only [Option.some.injEq] at hc; subst hc
    obtain ⟨b, cap, rfl, _⟩ := h.sl_base.inv_sl
    exact ⟨h.sl_base, rfl, rfl, rfl, rfl⟩
  case rptr cs =>
    simp only [Option.some.injEq] at hc; subst hc
    obtain ⟨b, o, rfl, h0⟩ := h.rptr_pt
    exact ⟨h0, rfl, rfl, rfl, rfl⟩
  case fn f cs =>
    cases cs with
    | nil =>
      simp only [AV.clean1, Option.some.injEq] at hc; subst hc
      obtain ⟨vs, rfl, hn, _⟩ := h.inv_fn
      have : vs = [] := List.eq_nil_of_length_eq_zero (by simpa using hn)
      subst this
      exact ⟨.fn f [] [] rfl (by simp), rfl, rfl, rfl, rfl⟩
    | cons => simp [AV.clean1] at hc

theorem cleanL_ok : ∀ {xs ys : List AV} {vs : List Value}, Pw c xs vs → cleanL xs = some ys → ys.length = xs.length ∧ ∀ (i : Nat) (y : AV) (v : Value), ys[i]? = some y → vs[i]? = some v → VR0 c.im y v ∧ v.oneCell' = true
  | [], ys, vs, _, hc => by simp only [cleanL, Option.some.injEq] at hc; subst hc; simp
  | x :: xs, ys, vs, h, hc => by
    simp only [cleanL] at hc
    split at hc
    · rename_i y ys' h1 h2
      simp only [Option.some.injEq] at hc; subst hc
      cases vs with
      | nil => simp [Pw] at h
      | cons v vs =>
        obtain ⟨hl, ih⟩ := cleanL_ok (vs := vs) ⟨by simpa using h.1, fun i x u e1 e2 => h.2 (i + 1) x u e1 e2⟩ h2
        have h0 := clean1_ok (h.2 0 x v rfl rfl) h1
        refine ⟨by simp [hl], fun i y' v' e1 e2 => ?_⟩
        cases i with
        | zero => simp only [List.getElem?_cons_zero, Option.some.injEq] at e1 e2; subst e1; subst e2; exact ⟨h0.1, h0.2.1⟩
        | succ i => exact ih i y' v' (by simpa using e1) (by simpa using e2)
    · simp at hc

theorem clean_ok {x y : AV} {v : Value} (h : VR c x v) (hc : x.clean = some y) : VR0 c.im y v ∧ v.cells.toList.length = y.leaves.length ∧
    ∀ (j : Nat) (l : AV) (u : Value), y.leaves[j]? = some l → v.cells.toList[j]? = some u → VR0 c.im l u ∧ u.oneCell' = true := by
  unfold AV.clean at hc
  split at hc
  · rename_i cs
    cases hl : cleanL cs with
    | none => simp [hl] at hc
    | some ys =>
      simp only [hl, Option.map_some, Option.some.injEq] at hc; subst hc
      obtain ⟨vs, rfl, hn, hp⟩ := h.inv_agg
      obtain ⟨h1, h2⟩ := cleanL_ok (c := c) ⟨hn, hp⟩ hl
      refine ⟨.agg ys vs (by omega) (fun i y v e1 e2 => (h2 i y v e1 e2).1), by simp [Value.cells, AV.leaves]; omega, fun j l u e1 e2 => h2 j l u e1 (by simpa [Value.cells] using e2)⟩
  · obtain ⟨h1, h2, h3, _, h5⟩ := clean1_ok h hc
    rw [h3, h5]
    refine ⟨h1, rfl, fun j l u e1 e2 => ?_⟩
    cases j with
    | zero => simp only [List.getElem?_cons_zero, Option.some.injEq] at e1 e2; subst e1; subst e2; exact ⟨h1, h2⟩
    | succ j => simp at e1

/-! ### the world goes on -/

theorem blk_lt {w : World} {g : Nat} {o : Obj} (h : w.heap[g]? = some o) : g < w.heap.size := by
  rcases Nat.lt_or_ge g w.heap.size with h' | h'
  · exact h'
  · rw [Array.getElem?_eq_none h'] at h; simp at h

theorem Rel.im_lt (r : Rel w0 im0 c st a w) {b o : Nat} {x : Value} (h : c.im b o = some x) : b < w.heap.size := World.block_lt_of_cell? w ⟨b, o, none⟩ (r.imok _ _ _ h)

theorem Rel.own_lt (r : Rel w0 im0 c st a w) {i g k : Nat} {es : List AV} (h1 : c.β[i]? = some (some (g, k))) (h2 : st.own[i]? = some (some es)) : g < w.heap.size := by
  obtain ⟨cs, ty, lo, hi, hb, _⟩ := (r.own i g k es h1 h2).blk
  exact blk_lt hb

theorem Rel.tok_lt (r : Rel w0 im0 c st a w) {t b : Nat} {T : Tok} (h1 : c.tk[t]? = some T) (h2 : T.blk = some b) : b < w.heap.size := by
  obtain ⟨cs, ty, lo, hi, hb, _⟩ := (r.tok t T b h1 h2).blk
  exact blk_lt hb

theorem cell_of_block {w w' : World} {b : Nat} (h : w'.heap[b]? = w.heap[b]?) (o : Nat) : w'.cell? ⟨b, o, none⟩ = w.cell? ⟨b, o, none⟩ := World.cell?_of_block (w := w) (a := ⟨b, o, none⟩) h

theorem OwnOK.mono {d : Ctx} {B g k : Nat} {w w' : World} {es : List AV} (h : OwnOK c B w g k es) (hc : c.le d) (hi : ∀ o, d.im g o = none) (hb : w'.heap[g]? = w.heap[g]?) : OwnOK d B w' g k es := by
  obtain ⟨cs, ty, lo, hi', h1, h2, h3, h4, h5⟩ := h.blk
  exact ⟨h.new, hi, cs, ty, lo, hi', by rw [hb]; exact h1, h2, h3, h4, fun i e j x e1 e2 => let ⟨v, v1, v2, v3⟩ := h5 i e j x e1 e2; ⟨v, v1, v2.mono hc, v3⟩⟩

/-- The world grows; the old blocks are as they were. -/
theorem Rel.ext {w' : World} (r : Rel w0 im0 c st a w) (hb : Below w.heap.size w w') : Rel w0 im0 c st a w' := by
  have hsz : w0.heap.size ≤ w.heap.size := r.below.size
  refine ⟨r.defers, r.size, r.tmps, r.below.trans (hb.mono hsz), r.imle, r.imold, ?_, r.ownlen, ?_, r.tklen, r.tail, ?_, r.apart, r.glob, r.hole⟩
  · intro b o x h
    rw [cell_of_block (hb.block b (r.im_lt h))]
    exact r.imok b o x h
  · intro i g k es h1 h2
    exact (r.own i g k es h1 h2).mono (.refl c) (r.own i g k es h1 h2).im (hb.block g (r.own_lt h1 h2))
  · intro t T b h1 h2
    have := r.tok t T b h1 h2
    obtain ⟨cs, ty, lo, hi, h3, h4⟩ := this.blk
    exact ⟨this.new, this.room, this.im, cs, ty, lo, hi, by rw [hb.block b (r.tok_lt h1 h2)]; exact h3, h4⟩

theorem getElem?_snoc {α : Type} (l : List α) (x : α) (i : Nat) (y : α) (h : (l ++ [x])[i]? = some y) : (i < l.length ∧ l[i]? = some y) ∨ (i = l.length ∧ y = x) := by
  rcases Nat.lt_or_ge i l.length with h1 | h1
  · rw [List.getElem?_append_left h1] at h; exact .inl ⟨h1, h⟩
  · rw [List.getElem?_append_right h1] at h
    rcases Nat.eq_zero_or_pos (i - l.length) with h2 | h2
    · rw [h2] at h; simp only [List.getElem?_cons_zero, Option.some.injEq] at h; exact .inr ⟨by omega, h.symm⟩
    · rw [List.getElem?_eq_none (by simp; omega)] at h; simp at h

theorem getElem?_app' {α : Type} (l m : List α) (i : Nat) (y : α) (h : (l ++ m)[i]? = some y) : (i < l.length ∧ l[i]? = some y) ∨ (l.length ≤ i ∧ m[i - l.length]? = some y) := by
  rcases Nat.lt_or_ge i l.length with h1 | h1
  · rw [List.getElem?_append_left h1] at h; exact .inl ⟨h1, h⟩
  · rw [List.getElem?_append_right h1] at h; exact .inr ⟨h1, h⟩

/-- A new own block. -/
theorem Rel.addOwn {w' : World} (r : Rel w0 im0 c st a w) (hb : Below w.heap.size w w') {g k : Nat} {es : List AV} (hg : w.heap.size ≤ g)
    (hblk : ∃ cs ty lo hi, w'.heap[g]? = some (.cells cs ty (lo, hi)) ∧ (∀ o, o < cs.size → ¬ (lo ≤ o ∧ o < hi)) ∧ es.length * k ≤ cs.size ∧
      (∀ (i : Nat) (e : AV), es[i]? = some e → e.leaves.length = k) ∧ ∀ (i : Nat) (e : AV) (j : Nat) (x : AV), es[i]? = some e → e.leaves[j]? = some x → ∃ v, cs[i * k + j]? = some v ∧ VR c x v ∧ v.oneCell' = true) :
    c.le { c with β := c.β ++ [some (g, k)] } ∧ Rel w0 im0 { c with β := c.β ++ [some (g, k)] } { st with own := st.own ++ [some es] } a w' := by
  have hle : c.le { c with β := c.β ++ [some (g, k)] } := ⟨fun i p h => by
      have hlt : i < c.β.length := by
        rcases Nat.lt_or_ge i c.β.length with h' | h'
        · exact h'
        · rw [List.getElem?_eq_none h'] at h; simp at h
      show (c.β ++ [some (g, k)])[i]? = some p
      rw [List.getElem?_append_left hlt]; exact h, fun t T h => ⟨T, h, rfl, .inl rfl⟩, .refl _⟩
  have r' := r.ext hb
  have hfresh : ∀ o, c.im g o = none := fun o => by
    cases h : c.im g o with
    | none => rfl
    | some x => have := r.im_lt h; omega
  refine ⟨hle, r'.defers, r'.size, fun i x v h1 h2 => (r'.tmps i x v h1 h2).mono hle, r'.below, r'.imle, r'.imold, r'.imok, by simp [r'.ownlen], ?_, r'.tklen, r'.tail, r'.tok, ?_, r'.glob, fun l d i h1 h2 => ?_⟩
  rotate_left 2
  · have h3 := r.hole l d i h1 h2
    have hlt : i < c.β.length := by
      rcases Nat.lt_or_ge i c.β.length with h' | h'
      · exact h'
      · rw [List.getElem?_eq_none h'] at h3; simp at h3
    show (c.β ++ [some (g, k)])[i]? = some none
    rw [List.getElem?_append_left hlt]; exact h3
  · intro i g' k' es' h1 h2
    rcases getElem?_snoc _ _ _ _ h1 with ⟨hl1, h1⟩ | ⟨hl1, h1⟩
    · rcases getElem?_snoc _ _ _ _ h2 with ⟨hl2, h2⟩ | ⟨hl2, h2⟩
      · exact (r'.own i g' k' es' h1 h2).mono hle (r'.own i g' k' es' h1 h2).im rfl
      · have := r.ownlen; omega
    · rcases getElem?_snoc _ _ _ _ h2 with ⟨hl2, h2⟩ | ⟨hl2, h2⟩
      · have := r.ownlen; omega
      · simp only [Option.some.injEq, Prod.mk.injEq] at h1
        obtain ⟨rfl, rfl⟩ := h1
        simp only [Option.some.injEq] at h2
        subst h2
        obtain ⟨cs, ty, lo, hi, h1, h2, h3, h4, h5⟩ := hblk
        exact ⟨Nat.le_trans r.below.size hg, hfresh, cs, ty, lo, hi, h1, h2, h3, h4, fun i e j x e1 e2 => let ⟨v, v1, v2, v3⟩ := h5 i e j x e1 e2; ⟨v, v1, v2.mono hle, v3⟩⟩
  · refine ⟨?_, ?_, r'.apart.tt⟩
    · intro i j g1 k1 g2 k2 e1 e2 h1 h2 h3 h4 hij
      rcases getElem?_snoc _ _ _ _ h1 with ⟨l1, h1⟩ | ⟨l1, h1⟩ <;> rcases getElem?_snoc _ _ _ _ h2 with ⟨l2, h2⟩ | ⟨l2, h2⟩
      · have h3' : st.own[i]? = some (some e1) := by rw [List.getElem?_append_left (by rw [← r.ownlen]; exact l1)] at h3; exact h3
        have h4' : st.own[j]? = some (some e2) := by rw [List.getElem?_append_left (by rw [← r.ownlen]; exact l2)] at h4; exact h4
        exact r.apart.oo i j g1 k1 g2 k2 e1 e2 h1 h2 h3' h4' hij
      · have h3' : st.own[i]? = some (some e1) := by rw [List.getElem?_append_left (by rw [← r.ownlen]; exact l1)] at h3; exact h3
        have := r.own_lt h1 h3'
        simp only [Option.some.injEq, Prod.mk.injEq] at h2
        omega
      · have h4' : st.own[j]? = some (some e2) := by rw [List.getElem?_append_left (by rw [← r.ownlen]; exact l2)] at h4; exact h4
        have := r.own_lt h2 h4'
        simp only [Option.some.injEq, Prod.mk.injEq] at h1
        omega
      · omega
    · intro i t g1 k1 e1 T b h1 h2 h3 h4
      have hb' := r.tok_lt h3 h4
      rcases getElem?_snoc _ _ _ _ h1 with ⟨l1, h1⟩ | ⟨l1, h1⟩
      · have h2' : st.own[i]? = some (some e1) := by rw [List.getElem?_append_left (by rw [← r.ownlen]; exact l1)] at h2; exact h2
        exact r.apart.ot i t g1 k1 e1 T b h1 h2' h3 h4
      · simp only [Option.some.injEq, Prod.mk.injEq] at h1
        omega

structure ToksOK (im : Im) (B : Nat) (w : World) (tks : List Tok) : Prop where
  ok : ∀ (i : Nat) (T : Tok) (b : Nat), tks[i]? = some T → T.blk = some b → TokOK im B w T b
  ap : ∀ (i j : Nat) (T U : Tok) (b d : Nat), tks[i]? = some T → tks[j]? = some U → T.blk = some b → U.blk = some d → i ≠ j → b ≠ d

theorem getElem?_app {α : Type} (l m : List α) (i : Nat) (y : α) (h : (l ++ m)[i]? = some y) : (i < l.length ∧ l[i]? = some y) ∨ (l.length ≤ i ∧ m[i - l.length]? = some y) := by
  rcases Nat.lt_or_ge i l.length with h1 | h1
  · rw [List.getElem?_append_left h1] at h; exact .inl ⟨h1, h⟩
  · rw [List.getElem?_append_right h1] at h; exact .inr ⟨h1, h⟩

/-- Places are kept free. -/
theorem Rel.reserve (r : Rel w0 im0 c st a w) (m : Nat) {l : List (Tmp × Nat)} (hl : ∀ d i, (d, i) ∈ l → st.own.length ≤ i ∧ i < st.own.length + m) :
    Rel w0 im0 { c with β := c.β ++ List.replicate m none } { st with own := st.own ++ List.replicate m none, rsv := some l } a w := by
  have hin : ∀ {i : Nat} {p : Nat × Nat}, (c.β ++ List.replicate m none)[i]? = some (some p) → i < c.β.length ∧ c.β[i]? = some (some p) := fun {i p} h => by
    rcases getElem?_app' _ _ _ _ h with h | ⟨hl, h⟩
    · exact h
    · rw [List.getElem?_replicate] at h
      split at h <;> simp at h
  have hle : c.le { c with β := c.β ++ List.replicate m none } := ⟨fun i p h => by
      have hlt : i < c.β.length := by
        rcases Nat.lt_or_ge i c.β.length with h' | h'
        · exact h'
        · rw [List.getElem?_eq_none h'] at h; simp at h
      show (c.β ++ List.replicate m none)[i]? = some (some p)
      rw [List.getElem?_append_left hlt]; exact h, fun t T h => ⟨T, h, rfl, .inl rfl⟩, .refl _⟩
  have hown : ∀ {i : Nat} {es : List AV}, i < c.β.length → (st.own ++ List.replicate m none)[i]? = some (some es) → st.own[i]? = some (some es) := fun {i es} hlt h => by
    rwa [List.getElem?_append_left (by rw [← r.ownlen]; exact hlt)] at h
  refine ⟨r.defers, r.size, fun i x v h1 h2 => (r.tmps i x v h1 h2).mono hle, r.below, r.imle, r.imold, r.imok, by simp [r.ownlen], ?_, r.tklen, r.tail, r.tok, ?_, r.glob, ?_⟩
  · intro i g k es h1 h2
    obtain ⟨hlt, h1⟩ := hin h1
    exact (r.own i g k es h1 (hown hlt h2)).mono hle (r.own i g k es h1 (hown hlt h2)).im rfl
  · refine ⟨?_, ?_, r.apart.tt⟩
    · intro i j g1 k1 g2 k2 e1 e2 h1 h2 h3 h4 hij
      obtain ⟨l1, h1⟩ := hin h1
      obtain ⟨l2, h2⟩ := hin h2
      exact r.apart.oo i j g1 k1 g2 k2 e1 e2 h1 h2 (hown l1 h3) (hown l2 h4) hij
    · intro i t g1 k1 e1 T b h1 h2 h3 h4
      obtain ⟨l1, h1⟩ := hin h1
      exact r.apart.ot i t g1 k1 e1 T b h1 (hown l1 h2) h3 h4
  · intro l' d i h1 h2
    simp only [Option.some.injEq] at h1; subst h1
    obtain ⟨h3, h4⟩ := hl d i h2
    show (c.β ++ List.replicate m none)[i]? = some none
    rw [List.getElem?_append_right (by rw [r.ownlen]; exact h3), List.getElem?_replicate, if_pos (by rw [r.ownlen]; omega)]

/-- A place that was kept free is filled by a new own block. -/
theorem Rel.fill {w' : World} (r : Rel w0 im0 c st a w) {id : Nat} (drop : List (Tmp × Nat) → List (Tmp × Nat)) (hdrop : ∀ l d j, (d, j) ∈ drop l → (d, j) ∈ l ∧ j ≠ id) (hb : Below w.heap.size w w') {g k : Nat} {es : List AV} (hg : w.heap.size ≤ g) (hh : c.β[id]? = some none)
    (hblk : ∃ cs ty lo hi, w'.heap[g]? = some (.cells cs ty (lo, hi)) ∧ (∀ o, o < cs.size → ¬ (lo ≤ o ∧ o < hi)) ∧ es.length * k ≤ cs.size ∧
      (∀ (i : Nat) (e : AV), es[i]? = some e → e.leaves.length = k) ∧ ∀ (i : Nat) (e : AV) (j : Nat) (x : AV), es[i]? = some e → e.leaves[j]? = some x → ∃ v, cs[i * k + j]? = some v ∧ VR c x v ∧ v.oneCell' = true) :
    c.le { c with β := c.β.set id (some (g, k)) } ∧ Rel w0 im0 { c with β := c.β.set id (some (g, k)) } { st with own := st.own.set id (some es), rsv := st.rsv.map drop } a w' := by
  have hidlt : id < c.β.length := by
    rcases Nat.lt_or_ge id c.β.length with h' | h'
    · exact h'
    · rw [List.getElem?_eq_none h'] at hh; simp at hh
  have hset : ∀ {i : Nat} {p : Nat × Nat}, (c.β.set id (some (g, k)))[i]? = some (some p) → (i = id ∧ p = (g, k)) ∨ (i ≠ id ∧ c.β[i]? = some (some p)) := fun {i p} h => by
    rw [List.getElem?_set] at h
    by_cases e : id = i
    · subst e; rw [if_pos rfl, if_pos hidlt] at h; simp only [Option.some.injEq] at h; exact .inl ⟨rfl, h.symm⟩
    · rw [if_neg e] at h; exact .inr ⟨fun e' => e e'.symm, h⟩
  have hown : ∀ {i : Nat} {es' : List AV}, i ≠ id → (st.own.set id (some es))[i]? = some (some es') → st.own[i]? = some (some es') := fun {i es'} hne h => by
    rwa [List.getElem?_set_ne (fun e => hne e.symm)] at h
  have hle : c.le { c with β := c.β.set id (some (g, k)) } := ⟨fun i p h => by
      show (c.β.set id (some (g, k)))[i]? = some (some p)
      have : id ≠ i := fun e => by subst e; rw [hh] at h; simp at h
      rw [List.getElem?_set_ne this]; exact h, fun t T h => ⟨T, h, rfl, .inl rfl⟩, .refl _⟩
  have r' := r.ext hb
  have hfresh : ∀ o, c.im g o = none := fun o => by
    cases h : c.im g o with
    | none => rfl
    | some x => have := r.im_lt h; omega
  refine ⟨hle, r'.defers, r'.size, fun i x v h1 h2 => (r'.tmps i x v h1 h2).mono hle, r'.below, r'.imle, r'.imold, r'.imok, by simp [r'.ownlen], ?_, r'.tklen, r'.tail, r'.tok, ?_, r'.glob, ?_⟩
  · intro i g' k' es' h1 h2
    rcases hset h1 with ⟨rfl, q1⟩ | ⟨hne, q1⟩
    · simp only [Prod.mk.injEq] at q1
      obtain ⟨rfl, rfl⟩ := q1
      have h2 : (st.own.set i (some es))[i]? = some (some es') := h2
      rw [List.getElem?_set, if_pos rfl, if_pos (by rw [← r.ownlen]; exact hidlt)] at h2
      simp only [Option.some.injEq] at h2
      subst h2
      obtain ⟨cs, ty, lo, hi, h1, h2, h3, h4, h5⟩ := hblk
      exact ⟨Nat.le_trans r.below.size hg, hfresh, cs, ty, lo, hi, h1, h2, h3, h4, fun i e j x e1 e2 => let ⟨v, v1, v2, v3⟩ := h5 i e j x e1 e2; ⟨v, v1, v2.mono hle, v3⟩⟩
    · exact (r'.own i g' k' es' q1 (hown hne h2)).mono hle (r'.own i g' k' es' q1 (hown hne h2)).im rfl
  · refine ⟨?_, ?_, r'.apart.tt⟩
    · intro i j g1 k1 g2 k2 e1 e2 h1 h2 h3 h4 hij
      rcases hset h1 with ⟨a1, q1⟩ | ⟨n1, q1⟩ <;> rcases hset h2 with ⟨a2, q2⟩ | ⟨n2, q2⟩
      · exact absurd (a1.trans a2.symm) hij
      · have := r.own_lt q2 (hown n2 h4)
        simp only [Prod.mk.injEq] at q1
        omega
      · have := r.own_lt q1 (hown n1 h3)
        simp only [Prod.mk.injEq] at q2
        omega
      · exact r.apart.oo i j g1 k1 g2 k2 e1 e2 q1 q2 (hown n1 h3) (hown n2 h4) hij
    · intro i t g1 k1 e1 T b h1 h2 h3 h4
      have hb' := r.tok_lt h3 h4
      rcases hset h1 with ⟨a1, q1⟩ | ⟨n1, q1⟩
      · simp only [Prod.mk.injEq] at q1
        omega
      · exact r.apart.ot i t g1 k1 e1 T b q1 (hown n1 h2) h3 h4
  · intro l' d i h1 h2
    cases hl : st.rsv with
    | none => simp [hl] at h1
    | some l =>
      simp only [hl, Option.map_some, Option.some.injEq] at h1
      subst h1
      have h2 := hdrop l d i h2
      have := r.hole l d i hl h2.1
      show (c.β.set id (some (g, k)))[i]? = some none
      rw [List.getElem?_set_ne (fun e => h2.2 e.symm)]
      exact this

/-- New tokens; new cells that never change, in new blocks alone. -/
theorem Rel.addToks {w' : World} (r : Rel w0 im0 c st a w) (hb : Below w.heap.size w w') {im' : Im} {tks : List Tok} (him : c.im.le im') (hok : ∀ (b o : Nat) (x : Value), im' b o = some x → w'.cell? ⟨b, o, none⟩ = some x)
    (hold : ∀ (b o : Nat), b < w.heap.size → im' b o = c.im b o) (ht : ToksOK im' w.heap.size w' tks) :
    c.le ⟨c.β, c.tk ++ tks, im'⟩ ∧ Rel w0 im0 ⟨c.β, c.tk ++ tks, im'⟩ { st with tk := st.tk ++ tks.map (·.tail) } a w' := by
  have hle : c.le ⟨c.β, c.tk ++ tks, im'⟩ := ⟨fun i p h => h, fun t T h => by
      have hlt : t < c.tk.length := by
        rcases Nat.lt_or_ge t c.tk.length with h' | h'
        · exact h'
        · rw [List.getElem?_eq_none h'] at h; simp at h
      exact ⟨T, by show (c.tk ++ tks)[t]? = some T; rw [List.getElem?_append_left hlt]; exact h, rfl, .inl rfl⟩, him⟩
  have r' := r.ext hb
  have hsz := r.below.size
  refine ⟨hle, r'.defers, r'.size, fun i x v h1 h2 => (r'.tmps i x v h1 h2).mono hle, r'.below, r'.imle.trans him, fun b o h => ?_, hok, r'.ownlen, ?_, ?_, ?_, ?_, ?_, fun g cs h => (r'.glob g cs h).mono him, r'.hole⟩
  · show im' b o = im0 b o
    rw [hold b o (by omega)]; exact r.imold b o h
  · intro i g k es h1 h2
    have := r'.own i g k es h1 h2
    exact this.mono hle (fun o => by show im' g o = none; rw [hold g o (r.own_lt h1 h2)]; exact this.im o) rfl
  · simp [r'.tklen]
  · intro t T h
    rcases getElem?_app _ _ _ _ h with ⟨hl, h⟩ | ⟨hl, h⟩
    · show (st.tk ++ tks.map (·.tail))[t]? = some T.tail
      rw [List.getElem?_append_left (by rw [← r.tklen]; exact hl)]; exact r.tail t T h
    · show (st.tk ++ tks.map (·.tail))[t]? = some T.tail
      rw [List.getElem?_append_right (by rw [← r.tklen]; exact hl), ← r.tklen]
      simp [h]
  · intro t T b h1 h2
    rcases getElem?_app _ _ _ _ h1 with ⟨hl, h1⟩ | ⟨hl, h1⟩
    · have := r'.tok t T b h1 h2
      exact ⟨this.new, this.room, fun o ho => by show im' b o = none; rw [hold b o (r.tok_lt h1 h2)]; exact this.im o ho, this.blk⟩
    · have := ht.ok _ T b h1 h2
      exact ⟨Nat.le_trans hsz this.new, this.room, this.im, this.blk⟩
  · refine ⟨r'.apart.oo, ?_, ?_⟩
    · intro i t g k es T b h1 h2 h3 h4
      rcases getElem?_app _ _ _ _ h3 with ⟨hl, h3⟩ | ⟨hl, h3⟩
      · exact r.apart.ot i t g k es T b h1 h2 h3 h4
      · have h5 := r.own_lt h1 h2
        have h6 := (ht.ok _ T b h3 h4).new
        omega
    · intro t u T U b d h1 h2 h3 h4 hne
      rcases getElem?_app _ _ _ _ h1 with ⟨l1, h1⟩ | ⟨l1, h1⟩ <;> rcases getElem?_app _ _ _ _ h2 with ⟨l2, h2⟩ | ⟨l2, h2⟩
      · exact r.apart.tt t u T U b d h1 h2 h3 h4 hne
      · have h5 := r.tok_lt h1 h3
        have h6 := (ht.ok _ U d h2 h4).new
        omega
      · have h5 := r.tok_lt h2 h4
        have h6 := (ht.ok _ T b h1 h3).new
        omega
      · exact ht.ap _ _ T U b d h1 h2 h3 h4 (by omega)

end
end Go.Abs
