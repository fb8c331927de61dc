/- An abstract layer over the walk's calculus: abstract values (a slice is its content), the relation between an abstract state and a frame in a world. -/
import Derived.WalkKit
namespace Go.Abs
open Go Go.RowKit
set_option linter.unusedVariables false
set_option linter.unusedSimpArgs false

/-- An abstract value. any: nothing is known. v: this very value. agg, tup: struct or array, results. nilS: a nil slice. sl: a slice by its content (k cells an element; t: the token that says who may append). mu: a slice of an own block that is written. ptr: an address in an own block. rptr: an address of cells that no longer change. fn: a closure. -/
inductive AV where
  | any
  | v (x : Value)
  | agg (cs : List AV)
  | tup (cs : List AV)
  | nilS
  | sl (t : Option Nat) (k : Nat) (es : List AV)
  | mu (id k off len : Nat)
  | ptr (id idx off : Nat)
  | rptr (cs : List AV)
  | fn (f : FuncId) (cs : List AV)
  deriving Inhabited

def AV.leaves : AV → List AV
  | .agg cs => cs
  | x => [x]

abbrev Im := Nat → Nat → Option Value

/-- The relation where nothing is own: all memory that is meant lies in 'im', cells that never change again. -/
inductive VR0 (im : Im) : AV → Value → Prop
  | any (v : Value) : VR0 im .any v
  | v (x : Value) : VR0 im (.v x) x
  | agg (cs : List AV) (vs : List Value) (hn : vs.length = cs.length) (h : ∀ (i : Nat) (c : AV) (u : Value), cs[i]? = some c → vs[i]? = some u → VR0 im c u) : VR0 im (.agg cs) (.agg vs.toArray)
  | tup (cs : List AV) (vs : List Value) (hn : vs.length = cs.length) (h : ∀ (i : Nat) (c : AV) (u : Value), cs[i]? = some c → vs[i]? = some u → VR0 im c u) : VR0 im (.tup cs) (.tuple vs.toArray)
  | nilS : VR0 im .nilS (.slice none 0 0)
  | sl (k : Nat) (es : List AV) (b o cap : Nat) (cv : Nat → Nat → Value) (hc : es.length ≤ cap)
      (hk : ∀ (i : Nat) (e : AV), es[i]? = some e → e.leaves.length = k)
      (hm : ∀ (i : Nat) (e : AV) (j : Nat) (c : AV), es[i]? = some e → e.leaves[j]? = some c → im b (o + i * k + j) = some (cv i j))
      (h1 : ∀ (i : Nat) (e : AV) (j : Nat) (c : AV), es[i]? = some e → e.leaves[j]? = some c → (cv i j).oneCell' = true)
      (hv : ∀ (i : Nat) (e : AV) (j : Nat) (c : AV), es[i]? = some e → e.leaves[j]? = some c → VR0 im c (cv i j)) :
      VR0 im (.sl none k es) (.slice (some ⟨b, o, none⟩) es.length cap)
  | sl0 (k : Nat) (a : Option Addr) (cap : Nat) : VR0 im (.sl none k []) (.slice a 0 cap)
  | rptr (cs : List AV) (b o : Nat) (cv : Nat → Value) (hm : ∀ (j : Nat) (c : AV), cs[j]? = some c → im b (o + j) = some (cv j)) (h1 : ∀ (j : Nat) (c : AV), cs[j]? = some c → (cv j).oneCell' = true) (hv : ∀ (j : Nat) (c : AV), cs[j]? = some c → VR0 im c (cv j)) :
      VR0 im (.rptr cs) (.pointer (some ⟨b, o, none⟩))
  | fn (f : FuncId) (cs : List AV) (vs : List Value) (hn : vs.length = cs.length) (h : ∀ (i : Nat) (c : AV) (u : Value), cs[i]? = some c → vs[i]? = some u → VR0 im c u) : VR0 im (.fn f cs) (.func (.func f) #[] vs.toArray)

def Im.le (a b : Im) : Prop := ∀ x y v, a x y = some v → b x y = some v

theorem Im.le.refl (a : Im) : a.le a := fun _ _ _ h => h
theorem Im.le.trans {a b c : Im} (h : a.le b) (k : b.le c) : a.le c := fun x y v e => k x y v (h x y v e)

theorem VR0.mono {a b : Im} (h : a.le b) {x : AV} {v : Value} (r : VR0 a x v) : VR0 b x v := by
  induction r with
  | any v => exact .any v
  | v x => exact .v x
  | agg cs vs hn _ ih => exact .agg cs vs hn ih
  | tup cs vs hn _ ih => exact .tup cs vs hn ih
  | nilS => exact .nilS
  | sl k es b o cap cv hc hk hm h1 _ ih => exact .sl k es b o cap cv hc hk (fun i e j c h1 h2 => h _ _ _ (hm i e j c h1 h2)) h1 ih
  | sl0 k a cap => exact .sl0 k a cap
  | rptr cs b o cv hm h1 _ ih => exact .rptr cs b o cv (fun j c h1 => h _ _ _ (hm j c h1)) h1 ih
  | fn f cs vs hn _ ih => exact .fn f cs vs hn ih

/-- Who may append to a slice: its block, how many elements it has, for how many there is room, cells an element. -/
structure Tok where
  blk : Option Nat
  tail : Nat
  cap : Nat
  k : Nat

structure Ctx where
  β : List (Option (Nat × Nat))
  tk : List Tok
  im : Im

/-- A slice value that is its token's newest. -/
def Tok.at (T : Tok) (n : Nat) (v : Value) : Prop := (n = 0 ∧ v = .slice none 0 0) ∨ ∃ b, T.blk = some b ∧ v = .slice (some ⟨b, 0, none⟩) n T.cap

inductive VR (c : Ctx) : AV → Value → Prop
  | base {x : AV} {v : Value} (h : VR0 c.im x v) : VR c x v
  | tok {t k : Nat} {es : List AV} {v : Value} {T : Tok} (h : c.tk[t]? = some T) (h0 : VR0 c.im (.sl none k es) v) (hk : T.k = k) (hle : es.length ≤ T.tail)
      (hcur : es.length = T.tail → T.at es.length v) : VR c (.sl (some t) k es) v
  | mu {id off len g k cap : Nat} (h : c.β[id]? = some (some (g, k))) (hc : len ≤ cap) : VR c (.mu id k off len) (.slice (some ⟨g, off * k, none⟩) len cap)
  | ptr {id idx off g k : Nat} (h : c.β[id]? = some (some (g, k))) : VR c (.ptr id idx off) (.pointer (some ⟨g, idx * k + off, none⟩))
  | agg (cs : List AV) (vs : List Value) (hn : vs.length = cs.length) (h : ∀ (i : Nat) (x : AV) (u : Value), cs[i]? = some x → vs[i]? = some u → VR c x u) : VR c (.agg cs) (.agg vs.toArray)
  | tup (cs : List AV) (vs : List Value) (hn : vs.length = cs.length) (h : ∀ (i : Nat) (x : AV) (u : Value), cs[i]? = some x → vs[i]? = some u → VR c x u) : VR c (.tup cs) (.tuple vs.toArray)
  | fn (f : FuncId) (cs : List AV) (vs : List Value) (hn : vs.length = cs.length) (h : ∀ (i : Nat) (x : AV) (u : Value), cs[i]? = some x → vs[i]? = some u → VR c x u) : VR c (.fn f cs) (.func (.func f) #[] vs.toArray)

structure Ctx.le (c d : Ctx) : Prop where
  β : ∀ (i : Nat) (p : Nat × Nat), c.β[i]? = some (some p) → d.β[i]? = some (some p)
  tk : ∀ (t : Nat) (T : Tok), c.tk[t]? = some T → ∃ T', d.tk[t]? = some T' ∧ T'.k = T.k ∧ (T' = T ∨ T.tail < T'.tail)
  im : c.im.le d.im

theorem Ctx.le.refl (c : Ctx) : c.le c := ⟨fun _ _ h => h, fun _ T h => ⟨T, h, rfl, .inl rfl⟩, .refl _⟩
theorem Ctx.le.trans {a b c : Ctx} (h : a.le b) (k : b.le c) : a.le c :=
  ⟨fun i p e => k.β i p (h.β i p e), fun t T e => by
    obtain ⟨T1, e1, k1, o1⟩ := h.tk t T e
    obtain ⟨T2, e2, k2, o2⟩ := k.tk t T1 e1
    refine ⟨T2, e2, k2.trans k1, ?_⟩
    rcases o1 with rfl | o1
    · exact o2
    · rcases o2 with rfl | o2
      · exact .inr o1
      · exact .inr (Nat.lt_trans o1 o2), h.im.trans k.im⟩

theorem VR.mono {c d : Ctx} (h : c.le d) {x : AV} {v : Value} (r : VR c x v) : VR d x v := by
  induction r with
  | base h0 => exact .base (h0.mono h.im)
  | tok e h0 hk hle hcur =>
    obtain ⟨T', e', k', o'⟩ := h.tk _ _ e
    refine .tok e' (h0.mono h.im) (k'.trans hk) ?_ ?_
    · rcases o' with rfl | o' <;> omega
    · rcases o' with rfl | o'
      · exact hcur
      · intro hh; omega
  | mu e hc => exact .mu (h.β _ _ e) hc
  | ptr e => exact .ptr (h.β _ _ e)
  | agg cs vs hn _ ih => exact .agg cs vs hn ih
  | tup cs vs hn _ ih => exact .tup cs vs hn ih
  | fn f cs vs hn _ ih => exact .fn f cs vs hn ih

/-- An abstract state: the slots, the own blocks (their elements), the tokens (how many elements); what is known of package-level variables; rsv: places kept free for the new variables of a region that draws its order. -/
structure St where
  tmps : List AV
  own : List (Option (List AV))
  tk : List Nat
  gl : Nat → Option (List AV) := fun _ => none
  rsv : Option (List (Tmp × Nat)) := none

structure OwnOK (c : Ctx) (B : Nat) (w : World) (g k : Nat) (es : List AV) : Prop where
  new : B ≤ g
  im : ∀ o, c.im g o = none
  blk : ∃ cs ty lo hi, w.heap[g]? = some (.cells cs ty (lo, hi)) ∧ (∀ o, o < cs.size → ¬ (lo ≤ o ∧ o < hi)) ∧ es.length * k ≤ cs.size ∧
    (∀ (i : Nat) (e : AV), es[i]? = some e → e.leaves.length = k) ∧ ∀ (i : Nat) (e : AV) (j : Nat) (x : AV), es[i]? = some e → e.leaves[j]? = some x → ∃ v, cs[i * k + j]? = some v ∧ VR c x v ∧ v.oneCell' = true

structure TokOK (im : Im) (B : Nat) (w : World) (T : Tok) (b : Nat) : Prop where
  new : B ≤ b
  room : T.tail ≤ T.cap
  im : ∀ o, T.tail * T.k ≤ o → im b o = none
  blk : ∃ cs ty lo hi, w.heap[b]? = some (.cells cs ty (lo, hi)) ∧ (∀ o, o < cs.size → ¬ (lo ≤ o ∧ o < hi)) ∧ T.cap * T.k ≤ cs.size

/-- The blocks that are own: no two of them are one. -/
structure Apart (c : Ctx) (own : List (Option (List AV))) : Prop where
  oo : ∀ (i j g k g' k' : Nat) (es es' : List AV), c.β[i]? = some (some (g, k)) → c.β[j]? = some (some (g', k')) → own[i]? = some (some es) → own[j]? = some (some es') → i ≠ j → g ≠ g'
  ot : ∀ (i t g k : Nat) (es : List AV) (T : Tok) (b : Nat), c.β[i]? = some (some (g, k)) → own[i]? = some (some es) → c.tk[t]? = some T → T.blk = some b → g ≠ b
  tt : ∀ (t u : Nat) (T U : Tok) (b d : Nat), c.tk[t]? = some T → c.tk[u]? = some U → T.blk = some b → U.blk = some d → t ≠ u → b ≠ d

structure Rel (w0 : World) (im0 : Im) (c : Ctx) (st : St) (a : Act) (w : World) : Prop where
  defers : a.defers = []
  size : a.tmps.size = st.tmps.length
  tmps : ∀ (i : Nat) (x : AV) (v : Value), st.tmps[i]? = some x → a.tmps[i]? = some v → VR c x v
  below : Below w0.heap.size w0 w
  imle : im0.le c.im
  imold : ∀ (b o : Nat), b < w0.heap.size → c.im b o = im0 b o
  imok : ∀ (b o : Nat) (x : Value), c.im b o = some x → w.cell? ⟨b, o, none⟩ = some x
  ownlen : c.β.length = st.own.length
  own : ∀ (i g k : Nat) (es : List AV), c.β[i]? = some (some (g, k)) → st.own[i]? = some (some es) → OwnOK c w0.heap.size w g k es
  tklen : c.tk.length = st.tk.length
  tail : ∀ (t : Nat) (T : Tok), c.tk[t]? = some T → st.tk[t]? = some T.tail
  tok : ∀ (t : Nat) (T : Tok) (b : Nat), c.tk[t]? = some T → T.blk = some b → TokOK c.im w0.heap.size w T b
  apart : Apart c st.own
  glob : ∀ (g : Nat) (cs : List AV), st.gl g = some cs → VR0 c.im (.rptr cs) (.pointer (some ⟨g, 0, none⟩))
  hole : ∀ (l : List (Tmp × Nat)) (d : Tmp) (i : Nat), st.rsv = some l → (d, i) ∈ l → c.β[i]? = some none

/-- An operand's abstract value. -/
def leafOf : Value → AV
  | .slice none 0 0 => .nilS
  | x => .v x
def AV.ofV : Value → AV
  | .agg cs => .agg (cs.toList.map leafOf)
  | .tuple cs => .tup (cs.toList.map leafOf)
  | x => leafOf x
def St.ev (st : St) : Operand → AV
  | .tmp t => st.tmps.getD t .any
  | .const x => AV.ofV x
  | .global g => match st.gl g with
    | some cs => .rptr cs
    | none => .v (.pointer (some ⟨g, 0, none⟩))
  | .func f => .fn f []
def St.put (st : St) (d : Option Tmp) (x : AV) : St :=
  match d with
  | some d => { st with tmps := st.tmps.set d x }
  | none => st

theorem leafOf_ok (im : Im) (x : Value) : VR0 im (leafOf x) x := by
  unfold leafOf; split
  · exact .nilS
  · exact .v _

theorem ofV_ok (im : Im) (x : Value) : VR0 im (AV.ofV x) x := by
  unfold AV.ofV; split
  · rename_i cs
    have := VR0.agg (im := im) (cs.toList.map leafOf) cs.toList (by simp) (fun i c u h1 h2 => by
      simp only [List.getElem?_map, h2, Option.map_some, Option.some.injEq] at h1
      subst h1; exact leafOf_ok im u)
    simpa using this
  · rename_i cs
    have := VR0.tup (im := im) (cs.toList.map leafOf) cs.toList (by simp) (fun i c u h1 h2 => by
      simp only [List.getElem?_map, h2, Option.map_some, Option.some.injEq] at h1
      subst h1; exact leafOf_ok im u)
    simpa using this
  · exact leafOf_ok im _

section
variable {w0 : World} {im0 : Im} {c : Ctx} {st : St} {a : Act} {w : World}

theorem Rel.ev (r : Rel w0 im0 c st a w) (x : Operand) : VR c (st.ev x) (a.eval x) := by
  cases x with
  | tmp t =>
    simp only [St.ev, Act.eval]
    by_cases h : t < st.tmps.length
    · have h2 : t < a.tmps.size := by rw [r.size]; exact h
      have := r.tmps t st.tmps[t] a.tmps[t] (by simp [h]) (by simp [h2])
      simpa [List.getD_eq_getElem?_getD, h, h2] using this
    · have : st.tmps.getD t .any = .any := by simp [List.getD_eq_getElem?_getD, List.getElem?_eq_none (Nat.le_of_not_lt h)]
      rw [this]; exact .base (.any _)
  | const v => exact .base (ofV_ok _ v)
  | global g =>
    simp only [St.ev, Act.eval]
    cases h : st.gl g with
    | none => exact .base (.v _)
    | some cs => exact .base (r.glob g cs h)
  | func f =>
    have := VR0.fn (im := c.im) f [] [] rfl (by simp)
    exact .base this

theorem Rel.put (r : Rel w0 im0 c st a w) (d : Option Tmp) {x : AV} {v : Value} (h : VR c x v) : Rel w0 im0 c (st.put d x) (a.put d v) w := by
  cases d with
  | none => exact r
  | some d =>
    refine ⟨r.defers, ?_, ?_, r.below, r.imle, r.imold, r.imok, r.ownlen, r.own, r.tklen, r.tail, r.tok, r.apart, r.glob, r.hole⟩
    · simp [St.put, Act.put, r.size]
    · intro i y u h1 h2
      simp only [St.put, Act.put, List.getElem?_set, Array.getElem?_setIfInBounds] at h1 h2
      by_cases hi : d = i
      · subst hi
        rw [if_pos rfl] at h1 h2
        split at h1 <;> split at h2 <;> simp_all
      · rw [if_neg hi] at h1 h2
        exact r.tmps i y u h1 h2

end
end Go.Abs
