/- What an argument's reading tells of its cells, as abstract values: one law a type. -/
import Derived.Test.YtgiomlgkccjhfaaDoorAbsS
namespace Go.Abs
open Go Go.RowKit Go.ChangeShapes Go.WideShapes
set_option linter.unusedVariables false
set_option linter.unusedSimpArgs false

def imOf (w : World) : Im := fun b o => w.cell? ⟨b, o, none⟩

/-- Leaves tell cells. -/
structure Leafs (im : Im) (ls : List AV) (cs : List Value) : Prop where
  len : cs.length = ls.length
  at' : ∀ (i : Nat) (x : AV) (v : Value), ls[i]? = some x → cs[i]? = some v → VR0 im x v ∧ v.oneCell' = true ∧ x.leaves = [x]

/-- Whatever is read at this type are leaves of this shape. -/
def Reads {H : Type} (enc : TypeId × Value → H) (P : Program) (t : TypeId) (k : Nat) (S : List AV → Prop) : Prop :=
  ∀ (w : World) (base : Nat) (spare : Nat → Bool) (held : Bool) (fuel : Nat) (cs : List Value) (x : DataW H × List MemPlace), DataW.trod enc P w base spare held fuel t cs = some x → ∃ ls, S ls ∧ ls.length = k ∧ Leafs (imOf w) ls cs

section
variable {H : Type} {enc : TypeId × Value → H} {P : Program} {t : TypeId}

theorem Leafs.one {im : Im} {x : AV} {v : Value} (h : VR0 im x v) (h1 : v.oneCell' = true) (h2 : x.leaves = [x]) : Leafs im [x] [v] := by
  refine ⟨rfl, fun i y u e1 e2 => ?_⟩
  cases i with
  | zero => simp only [List.getElem?_cons_zero, Option.some.injEq] at e1 e2; subst e1; subst e2; exact ⟨h, h1, h2⟩
  | succ i => simp at e1

theorem reads_int {kd : IntKind} (ht : P.underlying t = some (.int kd)) : Reads enc P t 1 fun ls => ∃ n, (Lit.int kd n).wf = true ∧ ls = [.v (.int kd n)] := fun w base spare held fuel cs x h => by
  obtain ⟨n, rfl, _, hw⟩ := DataW.trod_int ht h
  exact ⟨_, ⟨n, hw, rfl⟩, rfl, .one (.v _) rfl rfl⟩
theorem reads_bool (ht : P.underlying t = some .bool) : Reads enc P t 1 fun ls => ∃ b : Bool, ls = [bl b] := fun w base spare held fuel cs x h => by
  obtain ⟨b, rfl, _⟩ := DataW.trod_bool ht h
  exact ⟨_, ⟨b, rfl⟩, rfl, .one (.v _) rfl rfl⟩
theorem reads_string (ht : P.underlying t = some .string) : Reads enc P t 1 fun ls => ∃ l : List UInt8, l.length ≤ maxLen ∧ ls = [str l] := fun w base spare held fuel cs x h => by
  obtain ⟨s, rfl, _, hw⟩ := DataW.trod_string ht h
  have e : (⟨s.data.toList.toArray⟩ : ByteArray) = s := by cases s; simp
  refine ⟨[str s.data.toList], ⟨s.data.toList, by simpa using hw, rfl⟩, rfl, .one ?_ rfl rfl⟩
  have h0 : VR0 (imOf w) (.v (.string s)) (.string s) := .v _
  rw [← e] at h0 ⊢
  simpa using h0

/-- An element out of its leaves: one leaf, or a struct. -/
def elOf : Bool → List AV → AV
  | true, ls => .agg ls
  | false, ls => ls.headD .any
theorem elOf_leaves {ag : Bool} {ls : List AV} {im : Im} {cs : List Value} (h : Leafs im ls cs) (hk : ag = false → ls.length = 1) : (elOf ag ls).leaves = ls := by
  cases ag with
  | true => rfl
  | false =>
    obtain ⟨x, rfl⟩ : ∃ x, ls = [x] := by
      cases ls with
      | nil => simp at hk
      | cons x l => cases l with
        | nil => exact ⟨x, rfl⟩
        | cons => simp at hk
    have hc : ∃ v, cs = [v] := by
      have := h.len
      cases cs with
      | nil => simp at this
      | cons v l => cases l with
        | nil => exact ⟨v, rfl⟩
        | cons => simp at this
    obtain ⟨v, rfl⟩ := hc
    exact (h.at' 0 x v rfl rfl).2.2

theorem gather {α : Type} {Q : Nat → α → Prop} : ∀ (n : Nat), (∀ i, i < n → ∃ p, Q i p) → ∃ L : List α, L.length = n ∧ ∀ (i : Nat) (p : α), L[i]? = some p → Q i p
  | 0, _ => ⟨[], rfl, by simp⟩
  | m + 1, h => by
    obtain ⟨L, hL, hL2⟩ := gather m (fun i hi => h i (by omega))
    obtain ⟨q, g⟩ := h m (by omega)
    refine ⟨L ++ [q], by simp [hL], fun i p hp => ?_⟩
    rcases getElem?_app' _ _ _ _ hp with ⟨_, hp⟩ | ⟨hi, hp⟩
    · exact hL2 i p hp
    · have : i = m := by
        have := (List.getElem?_eq_some_iff.1 hp).1
        simp at this
        omega
      subst this
      rw [hL] at hp
      simp at hp
      subst hp
      exact g

theorem reads_slice {e : TypeId} {k : Nat} {S : List AV → Prop} (ag : Bool) (ht : P.underlying t = some (.slice e)) (hc : P.cellsOf e = k) (hk : 0 < k) (hag : ag = false → k = 1) (he : Reads enc P e k S) :
    Reads enc P t 1 fun ls => ls = [.nilS] ∨ ∃ es : List AV, es.length ≤ maxLen ∧ (∀ x ∈ es, ∃ l, S l ∧ x = elOf ag l) ∧ ls = [.sl none k es] := fun w base spare held fuel cs x h => by
  rcases DataW.trod_slice ht h with ⟨rfl, _⟩ | ⟨a, len, cap, elems, rest, n, _, rfl, _, hb, hl, hm, hlen, hel, _⟩
  · exact ⟨_, .inl rfl, rfl, .one .nilS rfl rfl⟩
  · -- each element's leaves
    have h1 : ∀ i, i < len → ∃ ls cs, S ls ∧ ls.length = k ∧ Leafs (imOf w) ls cs ∧ ∀ j, j < k → w.cell? ((a.add (i * k)).add j) = cs[j]? := fun i hi => by
      have h2 := hel i hi
      rw [hc] at h2
      have h3 : i < elems.length := by omega
      rw [List.getElem?_eq_getElem h3] at h2
      cases hcs : w.cells? base (a.add (i * k)) k with
      | none => rw [hcs] at h2; simp at h2
      | some cs =>
        rw [hcs] at h2
        obtain ⟨ls, g1, g2, g3⟩ := he w base spare held n cs _ h2
        exact ⟨ls, cs, g1, g2, g3, (World.cells?_some hcs).2.2⟩
    have h4 := gather (Q := fun i p => S p.1 ∧ p.1.length = k ∧ Leafs (imOf w) p.1 p.2 ∧ ∀ j, j < k → w.cell? ((a.add (i * k)).add j) = p.2[j]?) len (fun i hi => let ⟨ls, cs, g⟩ := h1 i hi; ⟨(ls, cs), g⟩)
    obtain ⟨L, hL, hL2⟩ := h4
    refine ⟨[.sl none k (L.map fun p => elOf ag p.1)], .inr ⟨_, by simp [hL]; omega, ?_, rfl⟩, rfl, .one ?_ rfl rfl⟩
    · intro x hx
      obtain ⟨p, hp, rfl⟩ := List.mem_map.1 hx
      obtain ⟨i, hi⟩ := List.mem_iff_getElem?.1 hp
      exact ⟨p.1, (hL2 i p hi).1, rfl⟩
    · have hln : ∀ (i : Nat) (p : List AV × List Value), L[i]? = some p → (elOf ag p.1).leaves = p.1 := fun i p hp => elOf_leaves (hL2 i p hp).2.2.1 (fun e => by rw [(hL2 i p hp).2.1]; exact hag e)
      by_cases h0 : len = 0
      · have hnil : L = [] := List.eq_nil_of_length_eq_zero (by omega)
        subst hnil; subst h0
        exact .sl0 k (some a) cap
      · -- the address is a plain one
        have hspot : a.spot = none := by
          obtain ⟨p, hp⟩ : ∃ p, L[0]? = some p := ⟨L[0]'(by omega), List.getElem?_eq_getElem _⟩
          obtain ⟨_, g2, g3, g4⟩ := hL2 0 p hp
          have g5 := g4 0 hk
          have g6 : 0 < p.2.length := by rw [g3.len, g2]; exact hk
          rw [List.getElem?_eq_getElem g6] at g5
          have := World.cell?_spot g5
          simpa [Addr.add] using this
        obtain ⟨b, off, spot⟩ := a
        simp only at hspot; subst hspot
        have := VR0.sl (im := imOf w) k (L.map fun p => elOf ag p.1) b off cap (fun i j => (((L[i]?).bind fun p => p.2[j]?).getD undef)) (by simp [hL]; exact hl) ?_ ?_ ?_ ?_
        · simpa [hL] using this
        · intro i e he
          rw [List.getElem?_map] at he
          cases hp : L[i]? with
          | none => simp [hp] at he
          | some p => simp only [hp, Option.map_some, Option.some.injEq] at he; subst he; rw [hln i p hp]; exact (hL2 i p hp).2.1
        all_goals
          intro i e j c he hc'
          rw [List.getElem?_map] at he
          cases hp : L[i]? with
          | none => simp [hp] at he
          | some p =>
            simp only [hp, Option.map_some, Option.some.injEq] at he; subst he
            rw [hln i p hp] at hc'
            obtain ⟨_, g2, g3, g4⟩ := hL2 i p hp
            have hj : j < k := by rw [← g2]; exact (List.getElem?_eq_some_iff.1 hc').1
            have hj2 : j < p.2.length := by rw [g3.len]; exact (List.getElem?_eq_some_iff.1 hc').1
            have g5 := g4 j hj
            rw [List.getElem?_eq_getElem hj2] at g5
            have g6 := g3.at' j c _ hc' (List.getElem?_eq_getElem hj2)
            simp only [Option.bind_some, List.getElem?_eq_getElem hj2, Option.getD_some]
            first
              | exact g6.1
              | exact g6.2.1
              | (have e1 : (Addr.add ⟨b, off, none⟩ (i * k)).add j = ⟨b, off + i * k + j, none⟩ := by rw [add_plain, add_plain]
                 rw [e1] at g5; exact g5)

theorem Leafs.app {im : Im} {a b : List AV} {cs ds : List Value} (h : Leafs im a cs) (k : Leafs im b ds) : Leafs im (a ++ b) (cs ++ ds) := by
  refine ⟨by simp [h.len, k.len], fun i x v h1 h2 => ?_⟩
  rcases getElem?_app' _ _ _ _ h1 with ⟨l1, h1⟩ | ⟨l1, h1⟩
  · rw [List.getElem?_append_left (by rw [h.len]; exact l1)] at h2
    exact h.at' i x v h1 h2
  · rw [List.getElem?_append_right (by rw [h.len]; exact l1), h.len] at h2
    exact k.at' _ x v h1 h2

/-- Fields, one behind the other. -/
def ReadsF {H : Type} (enc : TypeId × Value → H) (P : Program) (fl : List Field) (off : Nat) (S : List AV → Prop) (total : Nat) : Prop :=
  ∀ (w : World) (base : Nat) (spare : Nat → Bool) (held : Bool) (n : Nat) (cs : List Value), cs.length = total →
    (∀ f ∈ fl, ∃ y, DataW.trod enc P w base spare held n f.type ((cs.drop f.offset).take (P.cellsOf f.type)) = some y) → ∃ ls, S ls ∧ ls.length + off = total ∧ Leafs (imOf w) ls (cs.drop off)
theorem readsF_nil (total : Nat) : ReadsF enc P [] total (fun ls => ls = []) total := fun w base spare held n cs hl _ =>
  ⟨[], rfl, by simp, by rw [List.drop_eq_nil_of_le (by omega)]; exact ⟨rfl, by simp⟩⟩
theorem readsF_cons {f : Field} {fl : List Field} {off k total : Nat} {Sf Sr : List AV → Prop} (hf : Reads enc P f.type k Sf) (hc : P.cellsOf f.type = k) (ho : f.offset = off) (hr : ReadsF enc P fl (off + k) Sr total) :
    ReadsF enc P (f :: fl) off (fun ls => ∃ a b, Sf a ∧ Sr b ∧ ls = a ++ b) total := fun w base spare held n cs hl h => by
  obtain ⟨y, hy⟩ := h f (List.mem_cons_self ..)
  rw [ho, hc] at hy
  obtain ⟨a, a1, a2, a3⟩ := hf w base spare held n _ y hy
  obtain ⟨b, b1, b2, b3⟩ := hr w base spare held n cs hl (fun g hg => h g (List.mem_cons_of_mem _ hg))
  refine ⟨a ++ b, ⟨a, b, a1, b1, rfl⟩, by simp; omega, ?_⟩
  have e : cs.drop off = (cs.drop off).take k ++ cs.drop (off + k) := by rw [← List.drop_drop, List.take_append_drop]
  rw [e]
  exact a3.app b3
theorem reads_struct {fs : Array Field} {fl : List Field} {S : List AV → Prop} {total : Nat} (ht : P.underlying t = some (.struct fs)) (hl : fs.toList = fl) (hc : P.cellsOf t = total) (h : ReadsF enc P fl 0 S total) : Reads enc P t total S := fun w base spare held fuel cs x hx => by
  obtain ⟨xs, n, _, _, h1, h2, h3⟩ := DataW.trod_struct ht hx
  subst hl
  obtain ⟨ls, g1, g2, g3⟩ := h w base spare held n cs (h1.trans hc) (fun f hf => by
    obtain ⟨i, hi⟩ := List.mem_iff_getElem?.1 hf
    have hi2 : fs[i]? = some f := by simpa using hi
    have hlt : i < xs.length := by rw [h2]; exact (Array.getElem?_eq_some_iff.1 hi2).1
    exact ⟨xs[i], by rw [h3 i f hi2, List.getElem?_eq_getElem hlt]⟩)
  exact ⟨ls, g1, by omega, by simpa using g3⟩

/-! ### an argument -/
section
variable {w : World} {base : Nat} {spare : Nat → Bool} {held : Bool} {r : Reach} {b0 : Nat} {v : Value} {d : DataW H} {ps : List MemPlace}

theorem arg_one {S : List AV → Prop} (hc : v.cells.toList = [v]) (hR : Reads enc P t 1 S) (hd : DataW.Trod enc P w base spare held t v d ps) : ∃ x, S [x] ∧ VR0 (imOf w) x v := by
  obtain ⟨fuel, hf⟩ := hd
  rw [hc] at hf
  obtain ⟨ls, h1, h2, h3⟩ := hR _ _ _ _ _ _ _ hf
  obtain ⟨x, rfl⟩ : ∃ x, ls = [x] := by
    cases ls with
    | nil => simp at h2
    | cons x l => cases l with
      | nil => exact ⟨x, rfl⟩
      | cons => simp at h2
  exact ⟨x, h1, (h3.at' 0 x v rfl rfl).1⟩
theorem arg_int {kd : IntKind} (ht : P.underlying t = some (.int kd)) (hv : Value.okWide P w r b0 t v) (hd : DataW.Trod enc P w base spare held t v d ps) : ∃ n, (Lit.int kd n).wf = true ∧ VR0 (imOf w) (.v (.int kd n)) v := by
  obtain ⟨n, rfl⟩ := okWide_int ht hv
  obtain ⟨x, ⟨m, h1, h2⟩, h3⟩ := arg_one (by simp [Value.cells]) (reads_int ht) hd
  simp only [List.cons.injEq, and_true] at h2; subst h2
  exact ⟨m, h1, h3⟩
theorem arg_bool (ht : P.underlying t = some .bool) (hv : Value.okWide P w r b0 t v) (hd : DataW.Trod enc P w base spare held t v d ps) : ∃ b : Bool, VR0 (imOf w) (bl b) v := by
  obtain ⟨n, rfl⟩ := okWide_bool ht hv
  obtain ⟨x, ⟨m, h2⟩, h3⟩ := arg_one (by simp [Value.cells]) (reads_bool ht) hd
  simp only [List.cons.injEq, and_true] at h2; subst h2
  exact ⟨m, h3⟩
theorem arg_string (ht : P.underlying t = some .string) (hv : Value.okWide P w r b0 t v) (hd : DataW.Trod enc P w base spare held t v d ps) : ∃ l : List UInt8, l.length ≤ maxLen ∧ VR0 (imOf w) (str l) v := by
  obtain ⟨n, rfl⟩ := okWide_string ht hv
  obtain ⟨x, ⟨m, h1, h2⟩, h3⟩ := arg_one (by simp [Value.cells]) (reads_string ht) hd
  simp only [List.cons.injEq, and_true] at h2; subst h2
  exact ⟨m, h1, h3⟩
theorem arg_slice {e : TypeId} {k : Nat} {S : List AV → Prop} (ag : Bool) (ht : P.underlying t = some (.slice e)) (hc : P.cellsOf e = k) (hk : 0 < k) (hag : ag = false → k = 1) (he : Reads enc P e k S)
    (hv : Value.okWide P w r b0 t v) (hd : DataW.Trod enc P w base spare held t v d ps) : ∃ x, VR0 (imOf w) x v ∧ (x = .nilS ∨ ∃ es : List AV, es.length ≤ maxLen ∧ (∀ y ∈ es, ∃ l, S l ∧ y = elOf ag l) ∧ x = .sl none k es) := by
  obtain ⟨a0, len, cap, rfl⟩ := okWide_slice ht hv
  obtain ⟨x, h2, h3⟩ := arg_one (by simp [Value.cells]) (reads_slice ag ht hc hk hag he) hd
  refine ⟨x, h3, ?_⟩
  rcases h2 with h2 | ⟨es, h4, h5, h2⟩ <;> simp only [List.cons.injEq, and_true] at h2
  · exact .inl h2
  · exact .inr ⟨es, h4, h5, h2⟩
theorem arg_struct {fs : Array Field} {k : Nat} {S : List AV → Prop} (ht : P.underlying t = some (.struct fs)) (hR : Reads enc P t k S) (hv : Value.okWide P w r b0 t v) (hd : DataW.Trod enc P w base spare held t v d ps) : ∃ ls, S ls ∧ VR0 (imOf w) (.agg ls) v := by
  obtain ⟨cs, rfl, hsz⟩ := okWide_struct ht hv
  obtain ⟨fuel, hf⟩ := hd
  obtain ⟨ls, h1, h2, h3⟩ := hR _ _ _ _ _ _ _ hf
  refine ⟨ls, h1, ?_⟩
  have := VR0.agg (im := imOf w) ls cs.toList (by simpa [Value.cells] using h3.len) (fun i c u e1 e2 => (h3.at' i c u e1 (by simpa [Value.cells] using e2)).1)
  simpa using this
end
end

theorem pw0_nil {im : Im} : Pw0 im [] [] := ⟨rfl, by simp⟩
theorem pw0_cons {im : Im} {x : AV} {v : Value} {xs : List AV} {vs : List Value} (h : VR0 im x v) (k : Pw0 im xs vs) : Pw0 im (x :: xs) (v :: vs) := by
  refine ⟨by simp [k.1], fun i y u h1 h2 => ?_⟩
  cases i with
  | zero => simp only [List.getElem?_cons_zero, Option.some.injEq] at h1 h2; subst h1; subst h2; exact h
  | succ i => exact k.2 i y u (by simpa using h1) (by simpa using h2)

/-- A law's contract, at what is read at the start. -/
theorem calls_law {E : Env} {f : FuncId} {xs : List AV} {args : Array Value} {W : World} (hok : E.ok W) (hg : GOK E (imOf W)) (h : ACalls E f xs fun r t => r = bl true ∧ t = []) (hp : Pw0 (imOf W) xs args.toList) :
    Calls E.P f args W fun e W' => e = .returned (.bool true) ∧ Below W.heap.size W W' := by
  have := h W (imOf W) args.toList hok hg (fun b o x e => e) hp
  refine (show Calls E.P f args.toList.toArray W _ from this).mono ?_
  rintro e W' ⟨v, r, tks, im', rfl, hB, _, _, _, _, hv, rfl, _⟩
  cases hv.inv_v
  exact ⟨rfl, hB⟩
end Go.Abs
