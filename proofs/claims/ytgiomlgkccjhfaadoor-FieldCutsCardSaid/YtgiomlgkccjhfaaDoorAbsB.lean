/- The operations that leave the world alone, on abstract values, and that the machine does as they say. -/
import Derived.Test.YtgiomlgkccjhfaaDoorAbsA
namespace Go.Abs
open Go Go.RowKit
set_option linter.unusedVariables false
set_option linter.unusedSimpArgs false

def aggD : TypeDesc → Bool
  | .struct _ | .array _ _ => true
  | _ => false
def tsz (P : Program) (t : TypeId) : Option Nat := (P.info? t).map (·.size)
/-- Is it a struct or an array; its cells. -/
def loadInfo (P : Program) (t : TypeId) : Option (Bool × Nat) :=
  match P.underlying t, tsz P t with
  | some d, some n => some (aggD d, n)
  | _, _ => none
/-- A field: its place, its type, its cells. -/
def fieldInfo (P : Program) (s : TypeId) (f : Nat) : Option (Nat × TypeId × Nat) :=
  match P.underlying s with
  | some (.struct fs) =>
    match fs[f]? with
    | some fd => (tsz P fd.type).map fun n => (fd.offset, fd.type, n)
    | none => none
  | _ => none
/-- What is indexed: an array's length, the element's type, its cells. -/
def idxInfo (P : Program) (t : TypeId) : Option (Option Nat × TypeId × Nat) :=
  match P.underlying t with
  | some (.slice e) => (tsz P e).map fun n => (none, e, n)
  | some (.array l e) => (tsz P e).map fun n => (some l, e, n)
  | _ => none

theorem tsz_run {P : Program} {t : TypeId} {n : Nat} (h : tsz P t = some n) (w : World) : (sizeOf t).run P w = .ok n w := by
  unfold tsz at h
  cases hi : P.info? t with
  | none => simp [hi] at h
  | some i => simp only [hi, Option.map_some, Option.some.injEq] at h; simp [sizeOf, typeInfo, hi, h]
theorem underlying_run {P : Program} {t : TypeId} {d : TypeDesc} (h : P.underlying t = some d) (w : World) : (underlying t).run P w = .ok d w := by
  simp [underlying, h]
theorem isAgg_run {P : Program} {t : TypeId} {d : TypeDesc} (h : P.underlying t = some d) (w : World) : (isAgg t).run P w = .ok (aggD d) w := by
  cases d <;> simp [isAgg, underlying, h, aggD]

/-! ### inversion -/
section inv
variable {c : Ctx} {im : Im}

theorem VR.inv_v {x v : Value} (h : VR c (.v x) v) : v = x := by
  cases h with
  | base h => cases h; rfl

theorem VR.inv_agg {cs : List AV} {v : Value} (h : VR c (.agg cs) v) : ∃ vs : List Value, v = .agg vs.toArray ∧ vs.length = cs.length ∧ ∀ (i : Nat) (x : AV) (u : Value), cs[i]? = some x → vs[i]? = some u → VR c x u := by
  cases h with
  | base h => cases h with
    | agg _ vs hn h => exact ⟨vs, rfl, hn, fun i x u h1 h2 => .base (h i x u h1 h2)⟩
  | agg _ vs hn h => exact ⟨vs, rfl, hn, h⟩

theorem VR.inv_tup {cs : List AV} {v : Value} (h : VR c (.tup cs) v) : ∃ vs : List Value, v = .tuple vs.toArray ∧ vs.length = cs.length ∧ ∀ (i : Nat) (x : AV) (u : Value), cs[i]? = some x → vs[i]? = some u → VR c x u := by
  cases h with
  | base h => cases h with
    | tup _ vs hn h => exact ⟨vs, rfl, hn, fun i x u h1 h2 => .base (h i x u h1 h2)⟩
  | tup _ vs hn h => exact ⟨vs, rfl, hn, h⟩

theorem VR.inv_fn {f : FuncId} {cs : List AV} {v : Value} (h : VR c (.fn f cs) v) : ∃ vs : List Value, v = .func (.func f) #[] vs.toArray ∧ vs.length = cs.length ∧ ∀ (i : Nat) (x : AV) (u : Value), cs[i]? = some x → vs[i]? = some u → VR c x u := by
  cases h with
  | base h => cases h with
    | fn _ _ vs hn h => exact ⟨vs, rfl, hn, fun i x u h1 h2 => .base (h i x u h1 h2)⟩
  | fn _ _ vs hn h => exact ⟨vs, rfl, hn, h⟩

theorem VR.inv_ptr {id idx off : Nat} {v : Value} (h : VR c (.ptr id idx off) v) : ∃ g k, c.β[id]? = some (some (g, k)) ∧ v = .pointer (some ⟨g, idx * k + off, none⟩) := by
  cases h with
  | base h => cases h
  | ptr h => exact ⟨_, _, h, rfl⟩

theorem VR.inv_mu {id k off len : Nat} {v : Value} (h : VR c (.mu id k off len) v) : ∃ g cap, c.β[id]? = some (some (g, k)) ∧ len ≤ cap ∧ v = .slice (some ⟨g, off * k, none⟩) len cap := by
  cases h with
  | base h => cases h
  | mu h hc => exact ⟨_, _, h, hc, rfl⟩

theorem VR.inv_nilS {v : Value} (h : VR c .nilS v) : v = .slice none 0 0 := by
  cases h with
  | base h => cases h; rfl

theorem VR.inv_rptr {cs : List AV} {v : Value} (h : VR c (.rptr cs) v) : ∃ b o, v = .pointer (some ⟨b, o, none⟩) ∧ ∃ cv : Nat → Value, (∀ (j : Nat) (x : AV), cs[j]? = some x → c.im b (o + j) = some (cv j)) ∧ (∀ (j : Nat) (x : AV), cs[j]? = some x → (cv j).oneCell' = true) ∧ ∀ (j : Nat) (x : AV), cs[j]? = some x → VR0 c.im x (cv j) := by
  cases h with
  | base h => cases h with
    | rptr _ b o cv hm h1 hv => exact ⟨b, o, rfl, cv, hm, h1, hv⟩

/-- A slice by its content is one by its content without a token. -/
theorem VR.sl_base {t : Option Nat} {k : Nat} {es : List AV} {v : Value} (h : VR c (.sl t k es) v) : VR0 c.im (.sl none k es) v := by
  cases h with
  | base h => cases h with
    | sl k es b o cap cv hc hk hm h1 hv => exact .sl k es b o cap cv hc hk hm h1 hv
    | sl0 k a cap => exact .sl0 k a cap
  | tok _ h0 _ _ _ => exact h0

theorem VR0.inv_sl {k : Nat} {es : List AV} {v : Value} (h : VR0 im (.sl none k es) v) : ∃ a cap, v = .slice a es.length cap ∧ es.length ≤ cap ∧
    (es = [] ∨ ∃ b o, a = some ⟨b, o, none⟩ ∧ (∀ (i : Nat) (e : AV), es[i]? = some e → e.leaves.length = k) ∧ ∃ cv : Nat → Nat → Value,
      (∀ (i : Nat) (e : AV) (j : Nat) (x : AV), es[i]? = some e → e.leaves[j]? = some x → im b (o + i * k + j) = some (cv i j)) ∧
      (∀ (i : Nat) (e : AV) (j : Nat) (x : AV), es[i]? = some e → e.leaves[j]? = some x → (cv i j).oneCell' = true) ∧
      ∀ (i : Nat) (e : AV) (j : Nat) (x : AV), es[i]? = some e → e.leaves[j]? = some x → VR0 im x (cv i j)) := by
  cases h with
  | sl _ _ b o cap cv hc hk hm h1 hv => exact ⟨_, cap, rfl, hc, .inr ⟨b, o, rfl, hk, cv, hm, h1, hv⟩⟩
  | sl0 _ a cap => exact ⟨a, cap, rfl, Nat.zero_le _, .inl rfl⟩
end inv

/-! ### cells -/
/-- The cells from an address on. -/
def cellsAt (st : St) : AV → Option (List AV)
  | .rptr cs => some cs
  | .ptr id idx off =>
    match st.own[id]? with
    | some (some es) => (es[idx]?).map fun e => e.leaves.drop off
    | _ => none
  | _ => none

theorem cellsAt_ok {w0 : World} {im0 : Im} {c : Ctx} {st : St} {a : Act} {w : World} (r : Rel w0 im0 c st a w) {x : AV} {v : Value} (h : VR c x v) {cs : List AV} (hc : cellsAt st x = some cs) :
    ∃ b o, v = .pointer (some ⟨b, o, none⟩) ∧ ∀ (j : Nat) (y : AV), cs[j]? = some y → ∃ u, w.cell? ⟨b, o + j, none⟩ = some u ∧ VR c y u := by
  unfold cellsAt at hc
  split at hc
  · rename_i cs'
    simp only [Option.some.injEq] at hc; subst hc
    obtain ⟨b, o, rfl, cv, hm, h1, hv⟩ := h.inv_rptr
    exact ⟨b, o, rfl, fun j y hj => ⟨cv j, r.imok _ _ _ (hm j y hj), .base (hv j y hj)⟩⟩
  · rename_i id idx off
    obtain ⟨g, k, hb, rfl⟩ := h.inv_ptr
    split at hc
    · rename_i es hes
      cases he : es[idx]? with
      | none => simp [he] at hc
      | some e =>
        simp only [he, Option.map_some, Option.some.injEq] at hc
        subst hc
        refine ⟨g, _, rfl, fun j y hj => ?_⟩
        rw [List.getElem?_drop] at hj
        obtain ⟨bs, ty, lo, hi, hblk, _, _, _, hcell⟩ := (r.own id g k es hb hes).blk
        obtain ⟨u, hu, hvr, _⟩ := hcell idx e (off + j) y he hj
        refine ⟨u, ?_, hvr⟩
        simp only [World.cell?, hblk, Option.isSome_none, Bool.false_eq_true, if_false]
        rw [← Nat.add_assoc] at hu
        exact hu
    · simp at hc
  · simp at hc

theorem vr_list {c : Ctx} {w : World} {b o n : Nat} {cs : List AV} (hn : n ≤ cs.length) (h : ∀ (j : Nat) (y : AV), cs[j]? = some y → ∃ u, w.cell? ⟨b, o + j, none⟩ = some u ∧ VR c y u) :
    ∃ us : List Value, us.length = n ∧ (∀ (j : Nat) (u : Value), us[j]? = some u → w.cell? ⟨b, o + j, none⟩ = some u) ∧ ∀ (j : Nat) (y : AV) (u : Value), (cs.take n)[j]? = some y → us[j]? = some u → VR c y u := by
  induction n with
  | zero => exact ⟨[], rfl, by simp, by simp⟩
  | succ n ih =>
    obtain ⟨us, hl, h1, h2⟩ := ih (by omega)
    have hlt : n < cs.length := by omega
    obtain ⟨u, hu, hv⟩ := h n cs[n] (by simp [hlt])
    refine ⟨us ++ [u], by simp [hl], ?_, ?_⟩
    · intro j x hj
      by_cases hjn : j < us.length
      · rw [List.getElem?_append_left hjn] at hj; exact h1 j x hj
      · rw [List.getElem?_append_right (by omega)] at hj
        have : j - us.length = 0 := by
          rcases Nat.eq_zero_or_pos (j - us.length) with h | h
          · exact h
          · rw [List.getElem?_eq_none (by simp; omega)] at hj; simp at hj
        rw [this] at hj
        simp only [List.getElem?_cons_zero, Option.some.injEq] at hj
        subst hj
        have : j = n := by omega
        subst this; exact hu
    · intro j y x hy hx
      rw [List.getElem?_take] at hy
      split at hy
      · rename_i hjn
        by_cases hj : j < us.length
        · rw [List.getElem?_append_left hj] at hx
          refine h2 j y x ?_ hx
          rw [List.getElem?_take, if_pos (by omega)]; exact hy
        · have : j = n := by omega
          subst this
          rw [List.getElem?_append_right (by omega), hl, Nat.sub_self] at hx
          simp only [List.getElem?_cons_zero, Option.some.injEq] at hx
          subst hx
          have : cs[j] = y := by simpa [hlt] using hy
          rw [← this]; exact hv
      · simp at hy

theorem add_none (b o n : Nat) : (⟨b, o, none⟩ : Addr).add n = ⟨b, o + n, none⟩ := by
  unfold Addr.add; split
  · rename_i h; subst h; rfl
  · rfl

theorem run_loadCells_at (P : Program) (w : World) (b o : Nat) (us : List Value) (h : ∀ (j : Nat) (u : Value), us[j]? = some u → w.cell? ⟨b, o + j, none⟩ = some u) :
    (loadCells ⟨b, o, none⟩ us.length).run P w = .ok us.toArray w :=
  run_loadCells_list (P := P) w ⟨b, o, none⟩ us (fun j u hj => by rw [add_none]; exact h j u hj)

section
variable {P : Program} {w0 : World} {im0 : Im} {c : Ctx} {st : St} {a : Act} {w : World}

/-- Loading. -/
def ALoad (P : Program) (st : St) (t : TypeId) (x : AV) (k : AV → Prop) : Prop :=
  ∃ cs, cellsAt st x = some cs ∧
    match loadInfo P t with
    | some (true, n) => n ≤ cs.length ∧ k (.agg (cs.take n))
    | some (false, _) => ∃ y, cs[0]? = some y ∧ k y
    | none => False

theorem load_ok (r : Rel w0 im0 c st a w) {t : TypeId} {x : AV} {v : Value} (h : VR c x v) {k : AV → Prop} (hk : ALoad P st t x k) :
    ∃ u y, (Instr.loadAt t v).run P w = .ok u w ∧ VR c y u ∧ k y := by
  obtain ⟨cs, hcs, hk⟩ := hk
  obtain ⟨b, o, rfl, hcell⟩ := cellsAt_ok r h hcs
  unfold loadInfo at hk
  cases hu : P.underlying t with
  | none => simp [hu] at hk
  | some d =>
    cases hs : tsz P t with
    | none => simp [hu, hs] at hk
    | some n =>
      simp only [hu, hs] at hk
      have ha := isAgg_run hu w
      cases hd : aggD d with
      | true =>
        simp only [hd] at hk ha
        obtain ⟨us, hl, h1, h2⟩ := vr_list hk.1 hcell
        have hrun := run_loadCells_at P w b o us h1
        rw [hl] at hrun
        refine ⟨.agg us.toArray, .agg (cs.take n), ?_, .agg _ us (by rw [hl, List.length_take]; omega) h2, hk.2⟩
        simp [Instr.loadAt, Instr.sureAddr, loadVar, ha, tsz_run hs w, hrun]
      | false =>
        simp only [hd] at hk ha
        obtain ⟨y, hy, hky⟩ := hk
        obtain ⟨u, hu', hv⟩ := hcell 0 y hy
        refine ⟨u, y, ?_, hv, hky⟩
        simp only [Nat.add_zero] at hu'
        simp [Instr.loadAt, Instr.sureAddr, loadVar, ha, hu']

/-- A field's address. -/
def AFieldAddr (P : Program) (s : TypeId) (x : AV) (f : Nat) (k : AV → Prop) : Prop :=
  match fieldInfo P s f with
  | some (o, _, n) => n ≠ 0 ∧
    match x with
    | .ptr id idx off => k (.ptr id idx (off + o))
    | .rptr cs => k (.rptr (cs.drop o))
    | _ => False
  | none => False

theorem VR0.rptr_drop {im : Im} {cs : List AV} {b o : Nat} (h : VR0 im (.rptr cs) (.pointer (some ⟨b, o, none⟩))) (n : Nat) : VR0 im (.rptr (cs.drop n)) (.pointer (some ⟨b, o + n, none⟩)) := by
  cases h with
  | rptr _ _ _ cv hm h1 hv =>
    refine .rptr _ b (o + n) (fun j => cv (n + j)) (fun j x hj => ?_) (fun j x hj => h1 _ x (by rw [List.getElem?_drop] at hj; exact hj)) (fun j x hj => ?_)
    · rw [List.getElem?_drop] at hj; rw [Nat.add_assoc]; exact hm _ _ hj
    · rw [List.getElem?_drop] at hj; exact hv _ _ hj

theorem VR.rptr_pt {cs : List AV} {v : Value} (h : VR c (.rptr cs) v) : ∃ b o, v = .pointer (some ⟨b, o, none⟩) ∧ VR0 c.im (.rptr cs) v := by
  obtain ⟨b, o, rfl, cv, hm, h1, hv⟩ := h.inv_rptr
  exact ⟨b, o, rfl, .rptr cs b o cv hm h1 hv⟩

theorem fieldAddr_ok {s : TypeId} {x : AV} {v : Value} {f : Nat} (h : VR c x v) {k : AV → Prop} (hk : AFieldAddr P s x f k) :
    ∃ u y, (Instr.fieldAt s v f).run P w = .ok u w ∧ VR c y u ∧ k y := by
  unfold AFieldAddr fieldInfo at hk
  cases hu : P.underlying s with
  | none => simp [hu] at hk
  | some d =>
    cases d <;> simp only [hu] at hk
    case struct fs =>
      cases hf : fs[f]? with
      | none => simp [hf] at hk
      | some fd =>
        cases hs : tsz P fd.type with
        | none => simp [hf, hs] at hk
        | some n =>
          simp only [hf, hs, Option.map_some] at hk
          obtain ⟨hn, hk⟩ := hk
          have hrun : ∀ b o, (Instr.fieldAt s (.pointer (some ⟨b, o, none⟩)) f).run P w = .ok (.pointer (some ⟨b, o + fd.offset, none⟩)) w := fun b o => by
            simp [Instr.fieldAt, underlying_run hu w, hf, Instr.sureAddr, fieldPlace, tsz_run hs w, hn, add_none]
          split at hk
          · obtain ⟨g, q, hb, rfl⟩ := h.inv_ptr
            refine ⟨_, _, hrun _ _, ?_, hk⟩
            rw [Nat.add_assoc]
            exact .ptr hb
          · obtain ⟨b, o, rfl, h0⟩ := h.rptr_pt
            exact ⟨_, _, hrun _ _, .base (h0.rptr_drop _), hk⟩
          · exact hk.elim
    all_goals exact hk.elim

/-- An element's address. -/
def AIndexAddr (P : Program) (t : TypeId) (x ix : AV) (k : AV → Prop) : Prop :=
  match ix with
  | .v (.int _ i) =>
    match idxInfo P t with
    | some (none, _, n) =>
      match x with
      | .sl _ k' es => 0 ≤ i ∧ n = k' ∧ ∃ e, es[i.toNat]? = some e ∧ k (.rptr e.leaves)
      | .mu id k' off len => 0 ≤ i ∧ i < len ∧ n = k' ∧ k (.ptr id (off + i.toNat) 0)
      | _ => False
    | some (some l, _, n) =>
      match x with
      | .ptr id idx off => 0 ≤ i ∧ i < l ∧ k (.ptr id idx (off + i.toNat * n))
      | .rptr cs => 0 ≤ i ∧ i < l ∧ k (.rptr (cs.drop (i.toNat * n)))
      | _ => False
    | none => False
  | _ => False

theorem indexAddr_ok {t : TypeId} {x ix : AV} {v vi : Value} (h : VR c x v) (hi : VR c ix vi) {k : AV → Prop} (hk : AIndexAddr P t x ix k) :
    ∃ u y, (Instr.indexAt t v vi).run P w = .ok u w ∧ VR c y u ∧ k y := by
  unfold AIndexAddr at hk
  split at hk
  case h_2 => exact hk.elim
  rename_i kd i
  cases hi.inv_v
  unfold idxInfo at hk
  cases hu : P.underlying t with
  | none => simp [hu] at hk
  | some d =>
    cases d <;> simp only [hu] at hk
    case slice e =>
      cases hs : tsz P e with
      | none => simp [hs] at hk
      | some n =>
        simp only [hs, Option.map_some] at hk
        split at hk
        · rename_i t' k' es
          obtain ⟨h0, rfl, e', he, hk⟩ := hk
          obtain ⟨a', cap, rfl, hcap, hes⟩ := h.sl_base.inv_sl
          have hlt : i.toNat < es.length := by
            rcases Nat.lt_or_ge i.toNat es.length with h | h
            · exact h
            · rw [List.getElem?_eq_none h] at he; simp at he
          rcases hes with rfl | ⟨b, o, rfl, hkk, cv, hm, h11, hv⟩
          · simp at he
          · have hilt : i < (es.length : Int) := by omega
            refine ⟨.pointer (some ⟨b, o + i.toNat * n, none⟩), .rptr e'.leaves, ?_, .base (.rptr _ _ _ (fun j => cv i.toNat j) (fun j x hj => hm _ _ _ _ he hj) (fun j x hj => h11 _ _ _ _ he hj) (fun j x hj => hv _ _ _ _ he hj)), hk⟩
            simp [Instr.indexAt, asIntOf, underlying_run hu w, h0, hilt, tsz_run hs w, add_none]
        · rename_i id k' off len
          obtain ⟨h0, hlt, rfl, hk⟩ := hk
          obtain ⟨g, cap, hb, hc, rfl⟩ := h.inv_mu
          refine ⟨.pointer (some ⟨g, (off + i.toNat) * n + 0, none⟩), _, ?_, .ptr hb, hk⟩
          simp [Instr.indexAt, asIntOf, underlying_run hu w, h0, hlt, tsz_run hs w, add_none, Nat.add_mul]
        · exact hk.elim
    case array l e =>
      cases hs : tsz P e with
      | none => simp [hs] at hk
      | some n =>
        simp only [hs, Option.map_some] at hk
        split at hk
        · obtain ⟨h0, hlt, hk⟩ := hk
          obtain ⟨g, q, hb, rfl⟩ := h.inv_ptr
          refine ⟨.pointer (some ⟨g, _ * q + (_ + i.toNat * n), none⟩), _, ?_, .ptr hb, hk⟩
          simp [Instr.indexAt, asIntOf, underlying_run hu w, h0, hlt, tsz_run hs w, add_none, Instr.sureAddr, Nat.add_assoc]
        · obtain ⟨h0, hlt, hk⟩ := hk
          obtain ⟨b, o, rfl, h1⟩ := h.rptr_pt
          refine ⟨.pointer (some ⟨b, o + i.toNat * n, none⟩), _, ?_, .base (h1.rptr_drop _), hk⟩
          simp [Instr.indexAt, asIntOf, underlying_run hu w, h0, hlt, tsz_run hs w, add_none, Instr.sureAddr]
        · exact hk.elim
    all_goals exact hk.elim

/-- A part of an aggregate. -/
def APart (P : Program) (t : TypeId) (cs : List AV) (o n : Nat) (k : AV → Prop) : Prop :=
  match P.underlying t with
  | some d => if aggD d then o + n ≤ cs.length ∧ k (.agg ((cs.drop o).take n)) else ∃ y, cs[o]? = some y ∧ k y
  | none => False

theorem part_ok {t : TypeId} {cs : List AV} {vs : List Value} (hn : vs.length = cs.length) (h : ∀ (i : Nat) (x : AV) (u : Value), cs[i]? = some x → vs[i]? = some u → VR c x u) {o n : Nat} (hs : tsz P t = some n)
    {k : AV → Prop} (hk : APart P t cs o n k) : ∃ u y, (part t vs.toArray o).run P w = .ok u w ∧ VR c y u ∧ k y := by
  unfold APart at hk
  cases hu : P.underlying t with
  | none => simp [hu] at hk
  | some d =>
    simp only [hu] at hk
    have ha := isAgg_run hu w
    split at hk
    · rename_i hd
      rw [hd] at ha
      refine ⟨.agg ((vs.drop o).take n).toArray, .agg ((cs.drop o).take n), ?_, .agg _ _ (by simp [hn]) ?_, hk.2⟩
      · simp [part, ha, tsz_run hs w]
      · intro i x u h1 h2
        rw [List.getElem?_take] at h1 h2
        split at h1
        · rename_i hlt
          rw [if_pos hlt] at h2
          rw [List.getElem?_drop] at h1 h2
          exact h _ _ _ h1 h2
        · simp at h1
    · rename_i hd
      simp only [hd] at ha
      obtain ⟨y, hy, hk⟩ := hk
      have hlt : o < cs.length := by
        rcases Nat.lt_or_ge o cs.length with h | h
        · exact h
        · rw [List.getElem?_eq_none h] at hy; simp at hy
      refine ⟨vs[o]'(by omega), y, ?_, h o y _ hy (by simp [hn, hlt]), hk⟩
      have : vs[o]? = some (vs[o]'(by omega)) := by simp [hn, hlt]
      simp [part, ha, this]

/-- An element: of a string, of an array. -/
def AIndex (P : Program) (t : TypeId) (x ix : AV) (k : AV → Prop) : Prop :=
  match ix with
  | .v (.int _ i) =>
    match P.underlying t with
    | some .string =>
      match x with
      | .v (.string s) => 0 ≤ i ∧ ∃ b, s.data[i.toNat]? = some b ∧ k (.v (.int .u8 b.toNat))
      | _ => False
    | some (.array l e) =>
      match x with
      | .agg cs => 0 ≤ i ∧ i < l ∧ ∃ n, tsz P e = some n ∧ APart P e cs (i.toNat * n) n k
      | _ => False
    | _ => False
  | _ => False

theorem index_ok {t : TypeId} {x ix : AV} {v vi : Value} (h : VR c x v) (hi : VR c ix vi) {k : AV → Prop} (hk : AIndex P t x ix k) :
    ∃ u y, (Instr.index t v vi).run P w = .ok u w ∧ VR c y u ∧ k y := by
  unfold AIndex at hk
  split at hk
  case h_2 => exact hk.elim
  rename_i kd i
  cases hi.inv_v
  split at hk
  · rename_i hu
    split at hk
    · rename_i s
      cases h.inv_v
      obtain ⟨h0, b, hb, hk⟩ := hk
      refine ⟨_, _, ?_, .base (.v _), hk⟩
      have hb' : s[i.toNat]? = some b := hb
      simp [Instr.index, asIntOf, underlying_run hu w, h0, hb']
    · exact hk.elim
  · rename_i l e hu
    split at hk
    · obtain ⟨h0, hlt, n, hs, hk⟩ := hk
      obtain ⟨vs, rfl, hn, hp⟩ := h.inv_agg
      obtain ⟨u, y, hr, hv, hk⟩ := part_ok (w := w) hn hp hs hk
      refine ⟨u, y, ?_, hv, hk⟩
      simp [Instr.index, asIntOf, underlying_run hu w, h0, hlt, tsz_run hs w, hr]
    · exact hk.elim
  · exact hk.elim

/-- A field of an aggregate. -/
def AField (P : Program) (t : TypeId) (x : AV) (f : Nat) (k : AV → Prop) : Prop :=
  match fieldInfo P t f with
  | some (o, e, n) =>
    match x with
    | .agg cs => APart P e cs o n k
    | _ => False
  | none => False

theorem field_ok {t : TypeId} {x : AV} {v : Value} {f : Nat} (h : VR c x v) {k : AV → Prop} (hk : AField P t x f k) :
    ∃ u y, (Instr.field t v f).run P w = .ok u w ∧ VR c y u ∧ k y := by
  unfold AField fieldInfo at hk
  cases hu : P.underlying t with
  | none => simp [hu] at hk
  | some d =>
    cases d <;> simp only [hu] at hk
    case struct fs =>
      cases hf : fs[f]? with
      | none => simp [hf] at hk
      | some fd =>
        cases hs : tsz P fd.type with
        | none => simp [hf, hs] at hk
        | some n =>
          simp only [hf, hs, Option.map_some] at hk
          split at hk
          · obtain ⟨vs, rfl, hn, hp⟩ := h.inv_agg
            obtain ⟨u, y, hr, hv, hk⟩ := part_ok (w := w) hn hp hs hk
            refine ⟨u, y, ?_, hv, hk⟩
            simp [Instr.field, underlying_run hu w, hf, asAgg, hr]
          · exact hk.elim
    all_goals exact hk.elim

/-- A component of results. -/
def AExtract (x : AV) (i : Nat) (k : AV → Prop) : Prop :=
  match x with
  | .tup cs => ∃ y, cs[i]? = some y ∧ k y
  | _ => False

theorem extract_ok {x : AV} {v : Value} {i : Nat} (h : VR c x v) {k : AV → Prop} (hk : AExtract x i k) :
    ∃ u y, (Instr.extract v i).run P w = .ok u w ∧ VR c y u ∧ k y := by
  unfold AExtract at hk
  split at hk
  · rename_i cs
    obtain ⟨y, hy, hk⟩ := hk
    obtain ⟨vs, rfl, hn, hp⟩ := h.inv_tup
    have hlt : i < cs.length := by
      rcases Nat.lt_or_ge i cs.length with h | h
      · exact h
      · rw [List.getElem?_eq_none h] at hy; simp at hy
    have hv : vs[i]? = some (vs[i]'(by omega)) := by simp [hn, hlt]
    refine ⟨_, y, ?_, hp i y _ hy hv, hk⟩
    simp [Instr.extract, hv]
  · exact hk.elim

/-- What an address must be ahead of its use. -/
def ANil (x : AV) (k : AV → Prop) : Prop :=
  match x with
  | .ptr .. | .rptr .. => k x
  | .v (.pointer (some _)) => k x
  | _ => False
end
end Go.Abs
