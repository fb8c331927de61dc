/- The layer, the plain facts: several texts of one chain, put together (AbsY, AbsZ, Drv, Drv2, Drv3). -/
import Derived.Test.YtajeeghgiilhiaaLc
/- Who may append is forgotten; a row is taken back to be written; contracts at nil. -/
set_option linter.unusedVariables false
set_option linter.unusedSimpArgs false
namespace Go.Abs
open Go Go.RowKit
section
variable {E : Env} {c : Code} {Q : Exit → St → Prop} {s : St}
/-- Who may append is forgotten. -/
theorem AWP.forget (i : Nat) {t k : Nat} {es : List AV} (hi : s.tmps[i]? = some (.sl (some t) k es)) (hw : AWP E c Q { s with tmps := s.tmps.set i (.sl none k es) }) : AWP E c Q s := by
  intro w0 im0 cx a w h0 hG r
  exact hw w0 im0 cx a w h0 hG (r.setTmp fun v hv => .base (r.tmps i _ v hi hv).sl_base)
/-- A nil slice is a slice without elements. -/
theorem AWP.nilPlain (i k : Nat) (hi : s.tmps[i]? = some .nilS) (hw : AWP E c Q { s with tmps := s.tmps.set i (.sl none k []) }) : AWP E c Q s := by
  intro w0 im0 cx a w h0 hG r
  refine hw w0 im0 cx a w h0 hG (r.setTmp fun v hv => .base ?_)
  have := (r.tmps i _ v hi hv).inv_nilS
  subst this
  exact .sl0 k none 0
end
/-- A contract at nil, where one at an empty slice is there. -/
theorem ACalls.of_le {E : Env} {f : FuncId} {xs ys : List AV} {R : AV → List Nat → Prop} (h : ∀ im vs, Pw0 im ys vs → Pw0 im xs vs) (hc : ACalls E f xs R) : ACalls E f ys R :=
  fun w im vs h0 hG hok hp => hc w im vs h0 hG hok (h im vs hp)
theorem VR0.of_nil {im : Im} {k : Nat} {v : Value} (h : VR0 im .nilS v) : VR0 im (.sl none k []) v := by cases h; exact .sl0 k none 0
end Go.Abs
namespace Go.Abs
open Go Go.RowKit
section
variable {w0 : World} {im0 : Base} {c : Ctx} {st : St} {a : Act} {w : World}
/-- A row that is no own block any more is a token's. -/
theorem Rel.addTok (r : Rel w0 im0 c st a w) {T : Tok} (hok : ∀ b, T.blk = some b → TokOK c.im w0.heap.size w T b) (ho : ∀ (b i g k : Nat) (es : List AV), T.blk = some b → c.β[i]? = some (some (g, k)) → st.own[i]? = some (some es) → g ≠ b)
    (ht : ∀ (b t d : Nat) (U : Tok), T.blk = some b → c.tk[t]? = some U → U.blk = some d → d ≠ b) : c.le ⟨c.β, c.tk ++ [T], c.im⟩ ∧ Rel w0 im0 ⟨c.β, c.tk ++ [T], c.im⟩ { st with tk := st.tk ++ [T.tail] } a w := by
  have hle : c.le ⟨c.β, c.tk ++ [T], c.im⟩ := ⟨fun _ _ h => h, fun t U h => ⟨U, by show (c.tk ++ [T])[t]? = some U; rw [List.getElem?_append_left (lt_of_get h)]; exact h, rfl, .inl rfl⟩, .refl _⟩
  refine ⟨hle, r.defers, r.size, fun i x v h1 h2 => (r.tmps i x v h1 h2).mono hle, r.below, r.imle, r.imold, r.imok, r.ownlen, fun i g k es h1 h2 => (r.own i g k es h1 h2).mono hle (r.own i g k es h1 h2).im rfl, by simp [r.tklen], fun t U h1 => ?_, fun t U b h1 h2 => ?_, ⟨r.apart.oo, fun i t g k es U b a1 a2 a3 a4 => ?_, fun t u U V b d a1 a2 a3 a4 htu => ?_⟩, r.glob, ⟨r.up.1, fun i x v h1 h2 => (r.up.2 i x v h1 h2).mono hle⟩, r.hole⟩
  · have h1 : (c.tk ++ [T])[t]? = some U := h1
    show (st.tk ++ [T.tail])[t]? = some U.tail
    rcases getElem?_snoc _ _ _ _ h1 with ⟨hl, h1⟩ | ⟨rfl, rfl⟩
    · rw [List.getElem?_append_left (by rw [← r.tklen]; exact hl)]; exact r.tail t U h1
    · rw [r.tklen]; simp
  · have h1 : (c.tk ++ [T])[t]? = some U := h1
    rcases getElem?_snoc _ _ _ _ h1 with ⟨hl, h1⟩ | ⟨rfl, rfl⟩
    · exact r.tok t U b h1 h2
    · exact hok b h2
  · have a3 : (c.tk ++ [T])[t]? = some U := a3
    rcases getElem?_snoc _ _ _ _ a3 with ⟨hl, a3⟩ | ⟨rfl, rfl⟩
    · exact r.apart.ot i t g k es U b a1 a2 a3 a4
    · exact ho b i g k es a4 a1 a2
  · have a1 : (c.tk ++ [T])[t]? = some U := a1
    have a2 : (c.tk ++ [T])[u]? = some V := a2
    rcases getElem?_snoc _ _ _ _ a1 with ⟨hl, b1⟩ | ⟨rfl, rfl⟩
    · rcases getElem?_snoc _ _ _ _ a2 with ⟨hl2, b2⟩ | ⟨rfl, rfl⟩
      · exact r.apart.tt t u U V b d b1 b2 a3 a4 htu
      · exact ht d t b U a4 b1 a3
    · rcases getElem?_snoc _ _ _ _ a2 with ⟨hl2, b2⟩ | ⟨rfl, rfl⟩
      · exact fun e => ht b u d V a3 b2 a4 e.symm
      · exact absurd rfl htu
end
/-- An own row is handed over to a token: it may be appended to, its content stays. -/
theorem AWP.retoken {E : Env} {c : Code} {Q : Exit → St → Prop} {s : St} (i id k n : Nat) (es : List AV) (hi : s.tmps[i]? = some (.mu id k 0 n es.length)) (ho : s.own[id]? = some (some es)) (hn : n ≤ es.length)
    (hc : ∀ e ∈ es.take n, ∀ x ∈ e.leaves, x.clean1 = some x) (hw : AWP E c Q { s with tmps := s.tmps.set i (.sl (some s.tk.length) k (es.take n)), own := s.own.set id none, tk := s.tk ++ [n] }) : AWP E c Q s := by
  intro w0 im0 cx a w h0 hG r
  have hlt : i < a.tmps.size := by rw [r.size]; exact lt_of_get hi
  have hlen : (es.take n).length = n := by rw [List.length_take]; omega
  rcases (r.tmps i _ _ hi (Array.getElem?_eq_getElem hlt)).inv_mu with ⟨g, hb, hcap, hv⟩ | ⟨hz, hz2, hv⟩
  · have hown := r.own id g k es hb ho
    obtain ⟨c', hle, hβ, htk, hnone, r', cv, hl, hm, h1, hvr⟩ := r.publish (n := n) hb ho rfl hc
    obtain ⟨cs, ty, lo, hi', hblk, hfr, hsz, _, _⟩ := hown.blk
    obtain ⟨hle2, r2⟩ := r'.addTok (T := ⟨some g, n, es.length, k⟩)
      (fun b hb' => by
        simp only [Option.some.injEq] at hb'; subst hb'
        exact ⟨hown.new, hn, fun o ho' => hnone o (by rw [hlen]; exact ho'), cs, ty, lo, hi', hblk, hfr, hsz⟩)
      (fun b j g' k' es' hb' h1' h2' => by
        simp only [Option.some.injEq] at hb'; subst hb'
        have h2' : (s.own.set id none)[j]? = some (some es') := h2'
        rw [List.getElem?_set] at h2'
        rw [hβ] at h1'
        by_cases hj : id = j
        · subst hj; rw [if_pos rfl] at h2'; split at h2' <;> simp at h2'
        · rw [if_neg hj] at h2'; exact r.apart.oo j id g' k' g k es' es h1' hb h2' ho (Ne.symm hj))
      (fun b t d U hb' h1' h2' => by
        simp only [Option.some.injEq] at hb'; subst hb'
        rw [htk] at h1'
        exact (r.apart.ot id t g k es U d hb ho h1' h2').symm)
    have hv2 : VR0 c'.im (.sl none k (es.take n)) (.slice (some ⟨g, 0, none⟩) n es.length) := by
      have := VR0.sl (im := c'.im) k (es.take n) g 0 es.length cv (by omega) hl (fun i e j x he hj => by rw [Nat.zero_add]; exact hm i e j x he hj) h1 hvr
      rw [hlen] at this; exact this
    refine hw w0 im0 _ a w h0 hG (r2.setTmp fun v hv' => ?_)
    rw [Array.getElem?_eq_getElem hlt, Option.some.injEq] at hv'
    rw [← hv', hv, Nat.zero_mul]
    refine .tok (T := ⟨some g, n, es.length, k⟩) ?_ hv2 rfl (by rw [hlen]; exact Nat.le_refl _) (fun _ => .inr ⟨g, rfl, by rw [hlen]⟩)
    show (c'.tk ++ [_])[s.tk.length]? = _
    rw [htk, ← r.tklen]; simp
  · have hes : es = [] := List.eq_nil_of_length_eq_zero hz2
    subst hes
    simp only [List.length_nil, Nat.le_zero_eq] at hn
    subst hn
    obtain ⟨hle2, r2⟩ := (r.dropOwn id).addTok (T := ⟨none, 0, 0, k⟩) (fun b hb => by simp at hb) (fun b _ _ _ _ hb => by simp at hb) (fun b _ _ _ hb => by simp at hb)
    refine hw w0 im0 _ a w h0 hG (r2.setTmp fun v hv' => ?_)
    rw [Array.getElem?_eq_getElem hlt, Option.some.injEq] at hv'
    rw [← hv', hv]
    refine .tok (T := ⟨none, 0, 0, k⟩) ?_ (.sl0 k none 0) rfl (Nat.le_refl _) (fun _ => .inl ⟨rfl, rfl⟩)
    show (cx.tk ++ [_])[s.tk.length]? = _
    rw [← r.tklen]; simp
end Go.Abs

/- Own blocks chosen and numbered anew; a leaf of an own struct told otherwise. -/
set_option linter.unusedVariables false
set_option linter.unusedSimpArgs false
namespace Go.Abs
open Go Go.RowKit

def AV.ren1 (σ : Nat → Option Nat) : AV → AV
  | .mu id k off n cap => match σ id with | some j => .mu j k off n cap | none => .any
  | .ptr id i o => match σ id with | some j => .ptr j i o | none => .any
  | .agg _ => .any
  | .tup _ => .any
  | .fn _ (_ :: _) => .any
  | x => x
def AV.ren2 (σ : Nat → Option Nat) : AV → AV
  | .agg cs => .agg (cs.map (AV.ren1 σ))
  | .fn f cs => .fn f (cs.map (AV.ren1 σ))
  | x => x.ren1 σ
def AV.ren (σ : Nat → Option Nat) : AV → AV
  | .tup cs => .tup (cs.map (AV.ren2 σ))
  | x => x.ren2 σ
def selAt (sel : List Nat) (id : Nat) : Option Nat := if id ∈ sel then some (sel.idxOf id) else none
theorem selAt_some {sel : List Nat} {id j : Nat} (h : selAt sel id = some j) : sel[j]? = some id := by
  unfold selAt at h
  split at h
  · rename_i hm
    simp only [Option.some.injEq] at h; subst h
    rw [List.getElem?_eq_getElem (List.idxOf_lt_length_of_mem hm)]
    simp
  · simp at h

def selβ (β : List (Option (Nat × Nat))) (sel : List Nat) : List (Option (Nat × Nat)) := sel.map fun id => (β[id]?).join
def selOwn (own : List (Option (List AV))) (sel : List Nat) : List (Option (List AV)) := sel.map fun id => ((own[id]?).join).map (·.map (AV.ren (selAt sel)))

section
variable {w0 : World} {im0 : Base} {c : Ctx} {st : St} {a : Act} {w : World} {sel : List Nat}

theorem selβ_at {β : List (Option (Nat × Nat))} {i : Nat} {p : Nat × Nat} (h : (selβ β sel)[i]? = some (some p)) : ∃ id, sel[i]? = some id ∧ β[id]? = some (some p) := by
  unfold selβ at h
  rw [List.getElem?_map] at h
  cases hs : sel[i]? with
  | none => simp [hs] at h
  | some id =>
    simp only [hs, Option.map_some, Option.some.injEq] at h
    refine ⟨id, rfl, ?_⟩
    cases hb : β[id]? with
    | none => simp [hb] at h
    | some q => simp only [hb, Option.join_some] at h; rw [h]
theorem selβ_of {β : List (Option (Nat × Nat))} {i id : Nat} {p : Nat × Nat} (h1 : sel[i]? = some id) (h2 : β[id]? = some (some p)) : (selβ β sel)[i]? = some (some p) := by
  unfold selβ
  rw [List.getElem?_map, h1]
  simp [h2]
theorem selOwn_at {own : List (Option (List AV))} {i : Nat} {es : List AV} (h : (selOwn own sel)[i]? = some (some es)) : ∃ id es0, sel[i]? = some id ∧ own[id]? = some (some es0) ∧ es = es0.map (AV.ren (selAt sel)) := by
  unfold selOwn at h
  rw [List.getElem?_map] at h
  cases hs : sel[i]? with
  | none => simp [hs] at h
  | some id =>
    simp only [hs, Option.map_some, Option.some.injEq] at h
    cases hb : own[id]? with
    | none => simp [hb] at h
    | some q =>
      cases q with
      | none => simp [hb] at h
      | some es0 =>
        simp only [hb, Option.join_some, Option.map_some, Option.some.injEq] at h
        exact ⟨id, es0, rfl, hb, h.symm⟩

abbrev selC (c : Ctx) (sel : List Nat) : Ctx := ⟨selβ c.β sel, c.tk, c.im⟩
theorem VR.ren1 {x : AV} {v : Value} (h : VR c x v) : VR (selC c sel) (x.ren1 (selAt sel)) v := by
  cases x with
  | any => exact .base (.any _)
  | v x => cases h.inv_v; exact .base (.v _)
  | agg cs => exact .base (.any _)
  | tup cs => exact .base (.any _)
  | nilS => cases h.inv_nilS; exact .base .nilS
  | sl t k es =>
    cases t with
    | none => exact .base h.sl_base
    | some t =>
      cases h with
      | base h => cases h
      | tok hT h0 hk hle hcur => exact .tok hT h0 hk hle hcur
  | mu id k off n cap =>
    simp only [AV.ren1]
    rcases h.inv_mu with ⟨g, hb, hcap, rfl⟩ | ⟨rfl, rfl, rfl⟩
    · cases hs : selAt sel id with
      | none => exact .base (.any _)
      | some j => exact .mu (selβ_of (selAt_some hs) hb) hcap
    · cases hs : selAt sel id with
      | none => exact .base (.any _)
      | some j => exact .muN
  | ptr id i o =>
    simp only [AV.ren1]
    obtain ⟨g, k, hb, rfl⟩ := h.inv_ptr
    cases hs : selAt sel id with
    | none => exact .base (.any _)
    | some j => exact .ptr (selβ_of (selAt_some hs) hb)
  | rptr cs => obtain ⟨b, o, rfl, h0⟩ := h.rptr_pt; exact .base h0
  | fn f cs =>
    cases cs with
    | nil =>
      obtain ⟨vs, rfl, hn, _⟩ := h.inv_fn
      have : vs = [] := List.eq_nil_of_length_eq_zero (by simpa using hn)
      subst this
      exact .base (.fn f [] [] rfl (by simp))
    | cons => exact .base (.any _)
theorem VR.renL {cs : List AV} {vs : List Value} {f : AV → AV} {d : Ctx} (hf : ∀ x v, VR c x v → VR d (f x) v) (hp : ∀ (i : Nat) (x : AV) (u : Value), cs[i]? = some x → vs[i]? = some u → VR c x u) : ∀ (i : Nat) (x : AV) (u : Value), (cs.map f)[i]? = some x → vs[i]? = some u → VR d x u := fun i x u h1 h2 => by
  rw [List.getElem?_map] at h1
  cases hc : cs[i]? with
  | none => simp [hc] at h1
  | some z => simp only [hc, Option.map_some, Option.some.injEq] at h1; subst h1; exact hf _ _ (hp i z u hc h2)
theorem VR.ren2 {x : AV} {v : Value} (h : VR c x v) : VR (selC c sel) (x.ren2 (selAt sel)) v := by
  cases x with
  | agg cs =>
    obtain ⟨vs, rfl, hn, hp⟩ := h.inv_agg
    exact .agg _ vs (by simp [hn]) (VR.renL (fun _ _ h => h.ren1) hp)
  | fn f cs =>
    obtain ⟨vs, rfl, hn, hp⟩ := h.inv_fn
    exact .fn f _ vs (by simp [hn]) (VR.renL (fun _ _ h => h.ren1) hp)
  | _ => exact h.ren1
theorem VR.ren {x : AV} {v : Value} (h : VR c x v) : VR (selC c sel) (x.ren (selAt sel)) v := by
  cases x with
  | tup cs =>
    obtain ⟨vs, rfl, hn, hp⟩ := h.inv_tup
    exact .tup _ vs (by simp [hn]) (VR.renL (fun _ _ h => h.ren2) hp)
  | _ => exact h.ren2

theorem ren_leaves (e : AV) (σ : Nat → Option Nat) : (e.ren σ).leaves.length = e.leaves.length ∧ ∀ (j : Nat) (y : AV), (e.ren σ).leaves[j]? = some y → ∃ x, e.leaves[j]? = some x ∧ (y = x.ren1 σ ∨ y = x.ren σ) := by
  cases e with
  | agg cs =>
    refine ⟨by simp [AV.ren, AV.ren2, AV.leaves], fun j y h => ?_⟩
    simp only [AV.ren, AV.ren2, AV.leaves, List.getElem?_map] at h
    cases hc : cs[j]? with
    | none => simp [hc] at h
    | some z => simp only [hc, Option.map_some, Option.some.injEq] at h; exact ⟨z, hc, .inl h.symm⟩
  | mu id k off n cap =>
    have hl : (AV.ren σ (.mu id k off n cap)).leaves = [AV.ren σ (.mu id k off n cap)] := by simp only [AV.ren, AV.ren2, AV.ren1]; cases σ id <;> rfl
    rw [hl]
    refine ⟨rfl, fun j y h => ?_⟩
    cases j with
    | zero => simp only [List.getElem?_cons_zero, Option.some.injEq] at h; exact ⟨_, rfl, .inr h.symm⟩
    | succ j => simp at h
  | ptr id i o =>
    have hl : (AV.ren σ (.ptr id i o)).leaves = [AV.ren σ (.ptr id i o)] := by simp only [AV.ren, AV.ren2, AV.ren1]; cases σ id <;> rfl
    rw [hl]
    refine ⟨rfl, fun j y h => ?_⟩
    cases j with
    | zero => simp only [List.getElem?_cons_zero, Option.some.injEq] at h; exact ⟨_, rfl, .inr h.symm⟩
    | succ j => simp at h
  | fn f cs =>
    refine ⟨rfl, fun j y h => ?_⟩
    cases j with
    | zero => simp only [AV.ren, AV.ren2, AV.leaves, List.getElem?_cons_zero, Option.some.injEq] at h; exact ⟨_, rfl, .inr h.symm⟩
    | succ j => simp [AV.ren, AV.ren2, AV.leaves] at h
  | _ =>
    refine ⟨rfl, fun j y h => ?_⟩
    cases j with
    | zero => simp only [AV.ren, AV.ren2, AV.ren1, AV.leaves, List.getElem?_cons_zero, Option.some.injEq] at h; exact ⟨_, rfl, .inr h.symm⟩
    | succ j => simp [AV.ren, AV.ren2, AV.ren1, AV.leaves] at h

theorem Rel.norm (r : Rel w0 im0 c st a w) (sel : List Nat) (hnd : sel.Nodup) (hrsv : st.rsv = none) (hup : st.up.map (AV.ren (selAt sel)) = st.up) :
    Rel w0 im0 (selC c sel) { st with tmps := st.tmps.map (AV.ren (selAt sel)), own := selOwn st.own sel } a w := by
  have inj : ∀ {i j id : Nat}, sel[i]? = some id → sel[j]? = some id → i = j := fun {i j id} h1 h2 => by
    have hi := lt_of_get h1
    have hj := lt_of_get h2
    rw [List.getElem?_eq_getElem hi, Option.some.injEq] at h1
    rw [List.getElem?_eq_getElem hj, Option.some.injEq] at h2
    have hp := List.pairwise_iff_getElem.1 hnd
    rcases Nat.lt_trichotomy i j with h | h | h
    · exact absurd (h1.trans h2.symm) (hp i j hi hj h)
    · exact h
    · exact absurd (h2.trans h1.symm) (hp j i hj hi h)
  refine ⟨r.defers, by simp [r.size], fun i x v h1 h2 => VR.renL (d := selC c sel) (vs := a.tmps.toList) (fun _ _ h => h.ren) (fun i x u e1 e2 => r.tmps i x u e1 (by simpa using e2)) i x v h1 (by simpa using h2), r.below, r.imle, r.imold, r.imok, by simp [selβ, selOwn], fun i g k es h1 h2 => ?_, r.tklen, r.tail, r.tok, ⟨fun i j g1 k1 g2 k2 e1 e2 a1 a2 a3 a4 hij => ?_, fun i t g1 k1 e1 T b a1 a2 a3 a4 => ?_, r.apart.tt⟩, r.glob, ⟨r.up.1, fun i x v h1 h2 => ?_⟩, fun l d i h1 => by rw [hrsv] at h1; simp at h1⟩
  · obtain ⟨id, hs, hb⟩ := selβ_at h1
    obtain ⟨id', es0, hs', ho, rfl⟩ := selOwn_at h2
    rw [hs, Option.some.injEq] at hs'; subst hs'
    obtain ⟨hnew, him, cs, ty, lo, hi, hblk, hfr, hsz, hlv, hcell⟩ := r.own id g k es0 hb ho
    refine ⟨hnew, him, cs, ty, lo, hi, hblk, hfr, by rw [List.length_map]; exact hsz, fun i e he => ?_, fun i e j y he hy => ?_⟩
    · rw [List.getElem?_map] at he
      cases hc : es0[i]? with
      | none => simp [hc] at he
      | some z => simp only [hc, Option.map_some, Option.some.injEq] at he; subst he; rw [(ren_leaves z _).1]; exact hlv i z hc
    · rw [List.getElem?_map] at he
      cases hc : es0[i]? with
      | none => simp [hc] at he
      | some z =>
        simp only [hc, Option.map_some, Option.some.injEq] at he; subst he
        obtain ⟨x, hx, hyx⟩ := (ren_leaves z _).2 j y hy
        obtain ⟨v, hv, hvr, h1⟩ := hcell i z j x hc hx
        refine ⟨v, hv, ?_, ?_⟩
        · rcases hyx with rfl | rfl
          · exact hvr.ren1
          · exact hvr.ren
        · rcases h1 with rfl | h1
          · rcases hyx with rfl | rfl <;> exact .inl rfl
          · exact .inr h1
  · obtain ⟨id, hs, hb⟩ := selβ_at a1
    obtain ⟨jd, hs2, hb2⟩ := selβ_at a2
    obtain ⟨id', es0, hs', ho, rfl⟩ := selOwn_at a3
    obtain ⟨jd', es2, hs2', ho2, rfl⟩ := selOwn_at a4
    rw [hs, Option.some.injEq] at hs'; subst hs'
    rw [hs2, Option.some.injEq] at hs2'; subst hs2'
    exact r.apart.oo id jd g1 k1 g2 k2 es0 es2 hb hb2 ho ho2 (fun e => hij (by subst e; exact inj hs hs2))
  · obtain ⟨id, hs, hb⟩ := selβ_at a1
    obtain ⟨id', es0, hs', ho, rfl⟩ := selOwn_at a2
    rw [hs, Option.some.injEq] at hs'; subst hs'
    exact r.apart.ot id t g1 k1 es0 T b hb ho a3 a4
  · have h3 : (st.up.map (AV.ren (selAt sel)))[i]? = some x := by rw [hup]; exact h1
    exact VR.renL (d := selC c sel) (fun _ _ h => h.ren) r.up.2 i x v h3 h2

/-- A place among the own ones, without memory. -/
theorem Rel.addNil (r : Rel w0 im0 c st a w) : c.le ⟨c.β ++ [none], c.tk, c.im⟩ ∧ Rel w0 im0 ⟨c.β ++ [none], c.tk, c.im⟩ { st with own := st.own ++ [some []] } a w := by
  have hle : c.le ⟨c.β ++ [none], c.tk, c.im⟩ := ⟨fun i p h => by
    show (c.β ++ [none])[i]? = some (some p)
    rw [List.getElem?_append_left (lt_of_get h)]; exact h, fun t T h => ⟨T, h, rfl, .inl rfl⟩, .refl _⟩
  have hβ : ∀ {i : Nat} {p : Nat × Nat}, (c.β ++ [none])[i]? = some (some p) → i < st.own.length ∧ c.β[i]? = some (some p) := fun {i p} h => by
    rcases getElem?_snoc _ _ _ _ h with ⟨hl, h⟩ | ⟨_, h⟩
    · exact ⟨by rw [← r.ownlen]; exact hl, h⟩
    · simp at h
  have ho : ∀ {i : Nat} {e : List AV}, i < st.own.length → (st.own ++ [some []])[i]? = some (some e) → st.own[i]? = some (some e) := fun {i e} hi h => by
    rw [List.getElem?_append_left hi] at h; exact h
  exact ⟨hle, r.defers, r.size, fun i x v e1 e2 => (r.tmps i x v e1 e2).mono hle, r.below, r.imle, r.imold, r.imok, by simp [r.ownlen], fun i g' k' es' e1 e2 => by
      obtain ⟨hi, e1⟩ := hβ e1
      have := r.own i g' k' es' e1 (ho hi e2)
      exact this.mono hle this.im rfl, r.tklen, r.tail, r.tok,
    ⟨fun i j g1 k1 g2 k2 e1 e2 a1 a2 a3 a4 hij => by
      obtain ⟨hi, a1⟩ := hβ a1
      obtain ⟨hj, a2⟩ := hβ a2
      exact r.apart.oo i j g1 k1 g2 k2 e1 e2 a1 a2 (ho hi a3) (ho hj a4) hij, fun i t g1 k1 e1 T b a1 a2 a3 a4 => by
      obtain ⟨hi, a1⟩ := hβ a1
      exact r.apart.ot i t g1 k1 e1 T b a1 (ho hi a2) a3 a4, r.apart.tt⟩, r.glob, ⟨r.up.1, fun i x v e1 e2 => (r.up.2 i x v e1 e2).mono hle⟩, fun l d i e1 e2 => by
      have := r.hole l d i e1 e2
      show (c.β ++ [none])[i]? = some none
      rw [List.getElem?_append_left (lt_of_get this)]; exact this⟩

/-- A leaf of an own struct is told otherwise. -/
theorem Rel.setLeaf (r : Rel w0 im0 c st a w) {id j : Nat} {cs : List AV} {x y : AV} (ho : st.own[id]? = some (some [.agg cs])) (hx : cs[j]? = some x) (hxn : x ≠ .any) (hy : ∀ v, VR c x v → VR c y v) : Rel w0 im0 c { st with own := st.own.set id (some [.agg (cs.set j y)]) } a w := by
  have hlt := lt_of_get ho
  have conv : ∀ {i : Nat} {e : List AV}, (st.own.set id (some [.agg (cs.set j y)]))[i]? = some (some e) → (i = id ∧ e = [.agg (cs.set j y)]) ∨ (i ≠ id ∧ st.own[i]? = some (some e)) := by
    intro i e he
    rw [List.getElem?_set] at he
    by_cases hi' : id = i
    · subst hi'; rw [if_pos rfl, if_pos hlt] at he
      simp only [Option.some.injEq] at he; exact .inl ⟨rfl, he.symm⟩
    · rw [if_neg hi'] at he; exact .inr ⟨Ne.symm hi', he⟩
  have old : ∀ {i : Nat} {e : List AV}, (st.own.set id (some [.agg (cs.set j y)]))[i]? = some (some e) → ∃ e', st.own[i]? = some (some e') := fun {i e} he => by
    rcases conv he with ⟨rfl, _⟩ | ⟨_, h⟩
    · exact ⟨_, ho⟩
    · exact ⟨_, h⟩
  refine ⟨r.defers, r.size, r.tmps, r.below, r.imle, r.imold, r.imok, by simp [r.ownlen], fun i g k es h1 h2 => ?_, r.tklen, r.tail, r.tok,
    ⟨fun i j g1 k1 g2 k2 e1 e2 a1 a2 a3 a4 hij => by
      obtain ⟨_, a3⟩ := old a3
      obtain ⟨_, a4⟩ := old a4
      exact r.apart.oo i j g1 k1 g2 k2 _ _ a1 a2 a3 a4 hij, fun i t g1 k1 e1 T b a1 a2 a3 a4 => by
      obtain ⟨_, a2⟩ := old a2
      exact r.apart.ot i t g1 k1 _ T b a1 a2 a3 a4, r.apart.tt⟩, r.glob, r.up, r.hole⟩
  rcases conv h2 with ⟨rfl, rfl⟩ | ⟨_, h2⟩
  · obtain ⟨hnew, him, ds, ty, lo, hi, hblk, hfr, hsz, hlv, hcell⟩ := r.own i g k _ h1 ho
    refine ⟨hnew, him, ds, ty, lo, hi, hblk, hfr, hsz, fun i' e he => ?_, fun i' e j' z he hz => ?_⟩
    · cases i' with
      | succ i' => simp at he
      | zero =>
        simp only [List.getElem?_cons_zero, Option.some.injEq] at he; subst he
        have := hlv 0 _ rfl
        simpa [AV.leaves] using this
    · cases i' with
      | succ i' => simp at he
      | zero =>
        simp only [List.getElem?_cons_zero, Option.some.injEq] at he; subst he
        have hz : (cs.set j y)[j']? = some z := hz
        rw [List.getElem?_set] at hz
        by_cases hj : j = j'
        · subst hj
          rw [if_pos rfl] at hz
          split at hz
          · simp only [Option.some.injEq] at hz; subst hz
            obtain ⟨v, e1, e2, e3⟩ := hcell 0 _ j x rfl hx
            refine ⟨v, e1, hy v e2, .inr ?_⟩
            rcases e3 with e3 | e3
            · exact absurd e3 hxn
            · exact e3
          · simp at hz
        · rw [if_neg hj] at hz; exact hcell 0 _ j' z rfl hz
  · exact r.own i g k es h1 h2
end

section
variable {E : Env} {c : Code} {Q : Exit → St → Prop} {s : St} {ops : Array Oper} {l : List Oper}

/-- Own blocks chosen and numbered anew. -/
theorem AWP.norm (sel : List Nat) (hnd : sel.Nodup) (hrsv : s.rsv = none) (hup : s.up.map (AV.ren (selAt sel)) = s.up) (hw : AWP E c Q { s with tmps := s.tmps.map (AV.ren (selAt sel)), own := selOwn s.own sel }) : AWP E c Q s :=
  fun w0 im0 _ a w h0 hG r => hw w0 im0 _ a w h0 hG (r.norm sel hnd hrsv hup)
theorem AWPL.norm (sel : List Nat) (hnd : sel.Nodup) (hrsv : s.rsv = none) (hup : s.up.map (AV.ren (selAt sel)) = s.up) (hw : AWPL E ops l Q { s with tmps := s.tmps.map (AV.ren (selAt sel)), own := selOwn s.own sel }) : AWPL E ops l Q s :=
  fun w0 im0 _ a w h0 hG r => hw w0 im0 _ a w h0 hG (r.norm sel hnd hrsv hup)

theorem set_app {α : Type} (l m : List α) (i : Nat) (x : α) (h : i < l.length) : (l ++ m).set i x = l.set i x ++ m := by rw [List.set_append_left _ _ h]
/-- A nil slice in an own struct: a row of one's own. -/
theorem AWP.nilOwn (id j k : Nat) (cs : List AV) (ho : s.own[id]? = some (some [.agg cs])) (hx : cs[j]? = some .nilS) (hw : AWP E c Q { s with own := s.own.set id (some [.agg (cs.set j (.mu s.own.length k 0 0 0))]) ++ [some []] }) : AWP E c Q s := by
  intro w0 im0 cx a w h0 hG r
  obtain ⟨_, r1⟩ := r.addNil
  have r2 := r1.setLeaf (id := id) (j := j) (cs := cs) (x := .nilS) (y := .mu s.own.length k 0 0 0) (by show (s.own ++ [some []])[id]? = _; rw [List.getElem?_append_left (lt_of_get ho)]; exact ho) hx (by simp) (fun v hv => by cases hv.inv_nilS; exact .muN)
  have e : (s.own ++ [some []]).set id (some [.agg (cs.set j (.mu s.own.length k 0 0 0))]) = s.own.set id (some [.agg (cs.set j (.mu s.own.length k 0 0 0))]) ++ [some []] := set_app _ _ _ _ (lt_of_get ho)
  have r2 : Rel w0 im0 _ { s with own := (s.own ++ [some []]).set id (some [.agg (cs.set j (.mu s.own.length k 0 0 0))]) } a w := r2
  rw [e] at r2
  exact hw w0 im0 _ a w h0 hG r2
/-- A nil slice in an own struct: a token's. -/
theorem AWP.nilTokLeaf (id j k : Nat) (cs : List AV) (ho : s.own[id]? = some (some [.agg cs])) (hx : cs[j]? = some .nilS) (hw : AWP E c Q { s with own := s.own.set id (some [.agg (cs.set j (.sl (some s.tk.length) k []))]), tk := s.tk ++ [0] }) : AWP E c Q s := by
  intro w0 im0 cx a w h0 hG r
  obtain ⟨c1, hle, r1, hv1⟩ := r.nilTok k
  exact hw w0 im0 _ a w h0 hG (r1.setLeaf (id := id) (j := j) (cs := cs) (x := .nilS) (y := .sl (some s.tk.length) k []) ho hx (by simp) (fun v hv => by cases hv.inv_nilS; exact hv1))
/-- A nil slice in an own struct: a slice without elements. -/
theorem AWP.nilPlainLeaf (id j k : Nat) (cs : List AV) (ho : s.own[id]? = some (some [.agg cs])) (hx : cs[j]? = some .nilS) (hw : AWP E c Q { s with own := s.own.set id (some [.agg (cs.set j (.sl none k []))]) }) : AWP E c Q s :=
  fun w0 im0 _ a w h0 hG r => hw w0 im0 _ a w h0 hG (r.setLeaf ho hx (by simp) (fun v hv => by cases hv.inv_nilS; exact .base (.sl0 k none 0)))
/-- A row of one's own in an own struct is written no more. -/
theorem AWP.publishLeaf (id j : Nat) {jd k n cap : Nat} (cs es : List AV) (hne : jd ≠ id) (ho : s.own[id]? = some (some [.agg cs])) (hx : cs[j]? = some (.mu jd k 0 n cap)) (ho2 : s.own[jd]? = some (some es)) (hn : n ≤ es.length) (hc : ∀ e ∈ es.take n, ∀ x ∈ e.leaves, x.clean1 = some x)
    (hw : AWP E c Q { s with own := (s.own.set jd none).set id (some [.agg (cs.set j (.sl none k (es.take n)))]) }) : AWP E c Q s := by
  intro w0 im0 cx a w h0 hG r
  have hlen : (es.take n).length = n := by rw [List.length_take]; omega
  have key : ∃ c', cx.le c' ∧ Rel w0 im0 c' { s with own := s.own.set jd none } a w ∧ ∀ v, VR c' (.mu jd k 0 n cap) v → VR c' (.sl none k (es.take n)) v := by
    cases hb : cx.β[jd]? with
    | none => exact ⟨cx, .refl _, r.dropOwn jd, fun v hv => by
        rcases hv.inv_mu with ⟨g, hb', _, _⟩ | ⟨rfl, rfl, rfl⟩
        · rw [hb] at hb'; simp at hb'
        · rw [List.take_zero]; exact .base (.sl0 k none 0)⟩
    | some p =>
      cases p with
      | none => exact ⟨cx, .refl _, r.dropOwn jd, fun v hv => by
          rcases hv.inv_mu with ⟨g, hb', _, _⟩ | ⟨rfl, rfl, rfl⟩
          · rw [hb] at hb'; simp at hb'
          · rw [List.take_zero]; exact .base (.sl0 k none 0)⟩
      | some p =>
        obtain ⟨g, k'⟩ := p
        obtain ⟨c', hle, hβ, _, _, r', cv, hl, hm, h1, hvr⟩ := r.publish (n := n) hb ho2 rfl hc
        refine ⟨c', hle, r', fun v hv => ?_⟩
        rcases hv.inv_mu with ⟨g', hb', hcap, rfl⟩ | ⟨rfl, rfl, rfl⟩
        · rw [hβ, hb] at hb'
          simp only [Option.some.injEq, Prod.mk.injEq] at hb'
          obtain ⟨rfl, rfl⟩ := hb'
          have := VR0.sl (im := c'.im) k' (es.take n) g 0 cap cv (by omega) hl (fun i e j x he hj => by rw [Nat.zero_add]; exact hm i e j x he hj) h1 hvr
          rw [hlen] at this
          rw [Nat.zero_mul]; exact .base this
        · rw [List.take_zero]; exact .base (.sl0 k none 0)
  obtain ⟨c', hle, r', hv⟩ := key
  -- the leaf's value was told in the old context
  have hown : (s.own.set jd none)[id]? = some (some [.agg cs]) := by rw [List.getElem?_set_ne hne]; exact ho
  have r2 := r'.setLeaf (y := .sl none k (es.take n)) hown hx (by simp) hv
  exact hw w0 im0 c' a w h0 hG r2
end

theorem Snap1.mu' {own : List (Option (List AV))} {id k n cap : Nat} {es sp : List AV} (h : own[id]? = some (some (es ++ sp))) (hn : n = es.length) (hc : ∀ e ∈ es, ∀ x ∈ e.leaves, x.clean1 = some x) : Snap1 own (.mu id k 0 n cap) (.sl none k es) := by
  subst hn
  have := Snap1.mu (k := k) (cap := cap) h (n := es.length) (by simp) (by rw [List.take_left]; exact hc)
  rw [List.take_left] at this; exact this
theorem Snap1.mu0 {own : List (Option (List AV))} {id k n cap : Nat} {es : List AV} (h : own[id]? = some (some es)) (hn : n = es.length) (hc : ∀ e ∈ es, ∀ x ∈ e.leaves, x.clean1 = some x) : Snap1 own (.mu id k 0 n cap) (.sl none k es) := by
  have h' : own[id]? = some (some (es ++ [])) := by rw [List.append_nil]; exact h
  exact Snap1.mu' h' hn hc
/-- Such a call that yields one plain value. -/
theorem ACall.snapOne {E : Env} {ops : Array Oper} {d : Option Tmp} {l : List Oper} {st : St} {K : St → Prop} {g : FuncId} {caps xs ys : List AV} {x : Value} (hc : ACalls E g ys fun r t => r = .v x ∧ t = []) (hb : callable E.P g = true) (hr : st.rsv = none) (hy : All2 (Snap st.own) (xs ++ caps) ys)
    (h : AList E ops l (st.put d (.v x)) K) : ACall E ops (.fn g caps) xs d l st K := ACall.snap hc hb hr hy fun r t ⟨h1, h2⟩ => by
  subst h1; subst h2
  rw [List.append_nil]; exact ⟨trivial, h⟩
/-- Such a call that yields plain values. -/
theorem ACall.snapTup {E : Env} {ops : Array Oper} {d : Option Tmp} {l : List Oper} {st : St} {K : St → Prop} {g : FuncId} {caps xs ys rs : List AV} (hc : ACalls E g ys fun r t => r = .tup rs ∧ t = []) (hf : ∀ y ∈ rs, Fresh2 [] y) (hb : callable E.P g = true) (hr : st.rsv = none) (hy : All2 (Snap st.own) (xs ++ caps) ys)
    (h : AList E ops l (st.put d ((AV.tup rs).shift st.tk.length)) K) : ACall E ops (.fn g caps) xs d l st K := ACall.snap hc hb hr hy fun r t ⟨h1, h2⟩ => by
  subst h1; subst h2
  rw [List.append_nil]; exact ⟨hf, h⟩

/-- The first elements of a row of one's own, written no more. -/
theorem AWP.publishN {E : Env} {c : Code} {Q : Exit → St → Prop} {s : St} (i id k n cap : Nat) (es sp : List AV) (hi : s.tmps[i]? = some (.mu id k 0 n cap)) (ho : s.own[id]? = some (some (es ++ sp))) (hn : n = es.length) (hc : ∀ e ∈ es, ∀ x ∈ e.leaves, x.clean1 = some x)
    (hw : AWP E c Q { s with tmps := s.tmps.set i (.sl none k es), own := s.own.set id none }) : AWP E c Q s := by
  subst hn
  intro w0 im0 cx a w h0 hG r
  have hlt : i < a.tmps.size := by rw [r.size]; exact lt_of_get hi
  rcases (r.tmps i _ _ hi (Array.getElem?_eq_getElem hlt)).inv_mu with ⟨g, hb, hcap, hv⟩ | ⟨hz, _, hv⟩
  · obtain ⟨c', hle, hβ, _, _, r', cv, hl, hm, h1, hvr⟩ := r.publish (n := es.length) (es' := es) hb ho List.take_left.symm hc
    refine hw w0 im0 c' a w h0 hG (r'.setTmp fun v hv' => ?_)
    rw [Array.getElem?_eq_getElem hlt, Option.some.injEq] at hv'
    rw [← hv', hv]
    have := VR0.sl (im := c'.im) k es g (0 * k) cap cv hcap hl (fun i e j x he hj => by rw [Nat.zero_mul, Nat.zero_add]; exact hm i e j x he hj) h1 hvr
    exact .base this
  · have hes : es = [] := List.eq_nil_of_length_eq_zero hz
    subst hes
    have r' := r.setTmp (i := i) (y := .sl none k []) fun v hv' => by
      rw [Array.getElem?_eq_getElem hlt, Option.some.injEq] at hv'
      rw [← hv', hv]; exact .base (.sl0 k none 0)
    exact hw w0 im0 cx a w h0 hG (r'.dropOwn id)
end Go.Abs

/- A walk that steps by itself: what its steps want beyond the layer. -/
set_option linter.unusedVariables false
set_option linter.unusedSimpArgs false
namespace Go.Abs
open Go Go.RowKit

theorem AWP.fin {E : Env} {y : Code} {Q : Exit → St → Prop} {K : St → Prop} {s : St} (h : ∀ s, AWP E y Q s → K s) (g : AWP E y Q s) : K s := h s g
/-- The first region's number, its first slot, how many operations it has. -/
def codeSig : Nat → Code → Nat × Nat × Nat
  | _ + 1, .region i ops _ => (i, (match ops[0]? with | some o => o.dst.getD 0 | none => 0), ops.size)
  | n + 1, .seq a _ => codeSig n a
  | n + 1, .cond _ a _ => codeSig n a
  | n + 1, .block _ b => codeSig n b
  | n + 1, .loop b => codeSig n b
  | n + 1, .scope b => codeSig n b
  | _, _ => (0, 0, 0)
theorem AWP.loopN {E : Env} {Q : Exit → St → Prop} {st : St} {ι : Type} {c : Code} (hv : List Nat) (ps : ι → List (Nat × AV)) (I : ι → Prop) (μ : ι → Nat) (i : ι)
    (hw0 : st.Wk (st.at hv (ps i) st.own st.tk)) (hI : I i)
    (round : ∀ i, I i → AWP E c (AThen (fun s' => ∃ j, s'.Wk (st.at hv (ps j) st.own st.tk) ∧ I j ∧ μ j < μ i) Q) (st.at hv (ps i) st.own st.tk)) : AWP E (.loop c) Q st := AWP.loopH hv ps I μ i hw0 hI round
theorem AWP.loopM {E : Env} {Q : Exit → St → Prop} {st : St} {ι : Type} {c : Code} (hv : List Nat) (ps : ι → List (Nat × AV)) (own : ι → List (Option (List AV))) (tk : ι → List Nat) (I : ι → Prop) (μ : ι → Nat) (i : ι)
    (hw0 : st.Wk (st.at hv (ps i) (own i) (tk i))) (hI : I i)
    (round : ∀ i, I i → AWP E c (AThen (fun s' => ∃ j, s'.Wk (st.at hv (ps j) (own j) (tk j)) ∧ I j ∧ μ j < μ i) Q) (st.at hv (ps i) (own i) (tk i))) : AWP E (.loop c) Q st := AWP.loopO hv ps own tk I μ i hw0 hI round
/-- A mark: this place, and no other. -/
theorem AWP.here (n d k : Nat) {E : Env} {Q : Exit → St → Prop} {st : St} {c : Code} (hn : (codeSig 30 c == (n, d, k)) = true) (h : AWP E c Q st) : AWP E c Q st := h
theorem AInPost.ret {P : Program} {rs : List ResultVar} {st s : St} {K : St → AV → Prop} (hu : s.up = st.tmps ++ st.up) (h : ARes P s rs fun l => K { s with tmps := st.tmps, up := st.up } (tupOf l)) : AInPost P rs st K .ret s := ⟨hu, h⟩
theorem drop_of {α : Type} {l : List α} {i : Nat} {x : α} (h : l[i]? = some x) : l.drop i = x :: l.drop (i + 1) := by
  obtain ⟨hi, rfl⟩ := List.getElem?_eq_some_iff.1 h
  exact List.drop_eq_getElem_cons hi
theorem drop_end {α : Type} {l : List α} {i : Nat} (h : l.length ≤ i) : l.drop i = [] := List.drop_eq_nil_of_le h
/-- What a function tells is this. -/
theorem AEnd.is {P : Program} {rs : List ResultVar} {X : AV} {st : St} (h : ARes P st rs fun l => OutT [] (tupOf l) X) : AEnd P rs (fun r t => r = X ∧ t = []) st := by
  have key : ∀ (rs : List ResultVar) (k k' : List AV → Prop), (∀ l, k l → k' l) → ARes P st rs k → ARes P st rs k' := by
    intro rs
    induction rs with
    | nil => intro k k' hk h; exact hk _ h
    | cons r rs ih =>
      intro k k' hk h
      cases r with
      | tmp t => exact ih _ _ (fun l hl => hk _ hl) h
      | cell x t =>
        obtain ⟨cs, h1, h2⟩ := h
        refine ⟨cs, h1, ?_⟩
        split at h2
        · exact ⟨h2.1, ih _ _ (fun l hl => hk _ hl) h2.2⟩
        · obtain ⟨y, h3, h4⟩ := h2; exact ⟨y, h3, ih _ _ (fun l hl => hk _ hl) h4⟩
        · exact h2
  exact key rs _ _ (fun l hl => ⟨[], X, rfl, hl, rfl, rfl⟩) h
theorem out_v {x y : Value} {sel : List (Bool × Nat)} : OutV sel (.v x) (.v y) = (x = y) := rfl
theorem out_s {t : Option Nat} {k k' : Nat} {es es' : List AV} {sel : List (Bool × Nat)} : OutV sel (.sl t k es) (.sl none k' es') = (k = k' ∧ es = es') := by cases t <;> rfl
theorem out_n {k' : Nat} {es' : List AV} {sel : List (Bool × Nat)} : OutV sel .nilS (.sl none k' es') = (es' = []) := by cases es' <;> simp [OutV]
theorem v_int {k k' : IntKind} {n n' : Int} : (Value.int k n = Value.int k' n') = (k = k' ∧ n = n') := by simp
theorem v_bool {n n' : Bool} : (Value.bool n = Value.bool n') = (n = n') := by simp
theorem v_str {n n' : ByteArray} : (Value.string n = Value.string n') = (n = n') := by simp
end Go.Abs
namespace Go.Abs
open Go Go.RowKit
def ancOf : List Oper → List (List Nat) → List (List Nat)
  | [], acc => acc
  | o :: l, acc => ancOf l (acc ++ [(o.after.toList.filter (Region.binds .any)).flatMap fun e => e.on :: acc.getD e.on []])
def dsOf : List Oper → List Tmp
  | [] => []
  | o :: l => match o.op, o.dst with
    | .alloc _, some d => d :: dsOf l
    | _, _ => dsOf l
/-- A region that draws its order, worked off in this one. -/
theorem AWP.regionO {E : Env} {st : St} {id : Nat} {l : List Oper} {Q : Exit → St → Prop} (is : List Nat) (ds : List Tmp) (hm : E.P.follows .mixedOrders = true)
    (hx : (let anc := ancOf l []; listedOK l.toArray anc && planOK E.P l.toArray anc true (Plan.ofList is) (Array.replicate l.toArray.size false) l.toArray.size && decide ds.Nodup) = true) {l' : List Oper} (hl : pickOps l is = some l') (h : AList E l.toArray l' (st.keep ds) (Done (Q .normal))) : AWP E (.region id l.toArray true) Q st := by
  simp only [Bool.and_eq_true, decide_eq_true_eq] at hx
  exact AWP.regionAs is (ancOf l []) ds hm (by simp only [Bool.and_eq_true]; exact hx.1) hx.2 hl h
/-- A call that looks at all as it stands and yields what hangs on nothing own. -/
theorem ACall.sn {E : Env} {ops : Array Oper} {d : Option Tmp} {l : List Oper} {st : St} {K : St → Prop} {g : FuncId} {caps xs ys : List AV} {x : AV} (hy : All2 (Snap st.own) (xs ++ caps) ys) (hc : ACalls E g ys fun r t => r = x ∧ t = []) (hb : callable E.P g = true) (hr : st.rsv = none) (hf : Fresh [] x := by first | exact ⟨_, rfl⟩ | (simp [Fresh, Fresh2, Fresh1]; done))
    (h : AList E ops l (st.put d (x.shift st.tk.length)) K) : ACall E ops (.fn g caps) xs d l st K := ACall.snap hc hb hr hy fun r t ⟨h1, h2⟩ => by
  subst h1; subst h2
  refine ⟨hf, ?_⟩
  rw [List.append_nil]; exact h
end Go.Abs

/- A call whose contract speaks of the memory as it stands. -/
set_option linter.unusedVariables false
set_option linter.unusedSimpArgs false

namespace Go.Abs
open Go Go.RowKit
/-- A call whose contract speaks of this very memory. -/
theorem AWPL.callRaw {E : Env} {Q : Exit → St → Prop} {st : St} {ops : Array Oper} {l : List Oper} {g : FuncId} {caps : List AV} {dst : Option Tmp} {f : Operand} {xs : Array Operand} {tys : Array TypeId} {ty : TypeId} {pos : String} {after : Array Edge}
    (hc : callable E.P g = true) (he : st.ev f = .fn g caps)
    (h : ∀ (w0 : World) (im0 : Base) (cx : Ctx) (a : Act) (w : World) (vs : List Value), E.ok w0 → GOB E im0 → Rel w0 im0 cx st a w → Pw cx (xs.toList.map st.ev ++ caps) vs →
      Calls E.P g vs.toArray w fun e w' => ∃ v, e = .returned v ∧ ∃ cx' st' z, Rel w0 im0 cx' st' a w' ∧ VR cx' z v ∧ AWPL E ops l Q (st'.put dst z)) :
    AWPL E ops (⟨dst, .call ⟨.value f, xs, tys⟩, ty, pos, after, none⟩ :: l) Q st := by
  intro w0 im0 cx a w h0 hG r
  refine wpList_step (fun K' hK' => ?_)
  have hw : Region.wanted ⟨dst, .call ⟨.value f, xs, tys⟩, ty, pos, after, none⟩ (yielded ops a.tmps) = true := rfl
  rw [if_pos hw]
  have hv := r.ev f
  rw [he] at hv
  obtain ⟨us, hfe, hnu, hpu⟩ := hv.inv_fn
  have hargs : Pw cx (xs.toList.map st.ev ++ caps) (xs.toList.map a.eval ++ us) := by
    refine ⟨by simp [hnu], fun i x v h1 h2 => ?_⟩
    rcases getElem?_app _ _ _ _ h1 with ⟨l1, h1⟩ | ⟨l1, h1⟩
    · rw [List.getElem?_append_left (by simpa using l1)] at h2
      rw [List.getElem?_map] at h1 h2
      cases hc : xs.toList[i]? with
      | none => simp [hc] at h1
      | some z => simp only [hc, Option.map_some, Option.some.injEq] at h1 h2; subst h1; subst h2; exact r.ev z
    · rw [List.getElem?_append_right (by simpa using l1)] at h2
      have : (xs.toList.map a.eval).length = (xs.toList.map st.ev).length := by simp
      rw [this] at h2
      exact hpu _ _ _ h1 h2
  have hrun : (execOp a.eval ⟨dst, .call ⟨.value f, xs, tys⟩, ty, pos, after, none⟩).run E.P w = .ok (.enter g (xs.toList.map a.eval ++ us).toArray) w := by
    unfold callable at hc
    split at hc
    · rename_i fn hf
      simp only [Bool.and_eq_true, Bool.not_eq_true'] at hc
      obtain ⟨hn1, hn2⟩ := hc
      have hbn : fn.body.isNone = false := by
        cases hb : fn.body with
        | none => rw [hb] at hn2; simp at hn2
        | some b => rfl
      have harr : Array.map a.eval xs ++ us.toArray = (xs.toList.map a.eval ++ us).toArray := by
        apply Array.ext'
        simp
      have he' : a.eval f = .func (.func g) #[] us.toArray := hfe
      simp only [execOp, resolve, he', Deferred.ofValue, Sem.run_bind, Sem.run_pure, Result.andThen_ok, invoke, callFunc, run_program, hf, hn1, Bool.false_eq_true, if_false, hbn, Array.empty_append, harr]
    · simp at hc
  unfold Oper.wp
  rw [hrun]
  simp only [Oper.upon]
  refine (h w0 im0 cx a w _ h0 hG r hargs).mono ?_
  rintro e w' ⟨v, rfl, cx', st', z, r', hz, hk⟩
  exact hK' _ _ (hk w0 im0 cx' _ w' h0 hG (r'.put dst hz))
end Go.Abs
namespace Go.Abs
open Go Go.RowKit
/-- So many operations by rules; then the rest. -/
theorem AWPL.at (n k : Nat) {E : Env} {Q : Exit → St → Prop} {st : St} {ops : Array Oper} {l : List Oper} (hn : (l.length == n) = true) (h : AList E ops (l.take k) st (AWPL E ops (l.drop k) Q)) : AWPL E ops l Q st := by
  have := AWPL.app h
  rwa [List.take_append_drop] at this
end Go.Abs

/- Rows of one's own: begun at a nil slice; own blocks numbered anew, by rules. -/
set_option linter.unusedVariables false
set_option linter.unusedSimpArgs false
namespace Go.Abs
open Go Go.RowKit
/-- A nil slice in a slot: a row of one's own. -/
theorem AWP.nilMu {E : Env} {c : Code} {Q : Exit → St → Prop} {s : St} (i k : Nat) (h : s.tmps[i]? = some .nilS) (hw : AWP E c Q { s with tmps := s.tmps.set i (.mu s.own.length k 0 0 0), own := s.own ++ [some []] }) : AWP E c Q s := by
  intro w0 im0 cx a w h0 hG r
  obtain ⟨_, r'⟩ := r.addNil
  refine hw w0 im0 ⟨cx.β ++ [none], cx.tk, cx.im⟩ a w h0 hG ?_
  refine ⟨r'.defers, by simp [r'.size], fun j x v h1 h2 => ?_, r'.below, r'.imle, r'.imold, r'.imok, r'.ownlen, r'.own, r'.tklen, r'.tail, r'.tok, r'.apart, r'.glob, r'.up, r'.hole⟩
  rw [List.getElem?_set] at h1
  split at h1
  · rename_i hij
    subst hij
    split at h1
    · simp only [Option.some.injEq] at h1; subst h1
      have := r'.tmps i .nilS v h h2
      cases this.inv_nilS
      exact .muN
    · simp at h1
  · exact r'.tmps j x v h1 h2
theorem selAt_nil {n : Nat} : selAt [] n = none := by simp [selAt]
theorem selAt_cons {x n : Nat} {l : List Nat} : selAt (x :: l) n = if n = x then some 0 else (selAt l n).map (· + 1) := by
  unfold selAt
  by_cases h : n = x
  · subst h; simp
  · by_cases h2 : n ∈ l
    · have : ¬ x = n := fun e => h e.symm
      have hb : (x == n) = false := by simp [this]
      simp [h, h2, List.idxOf_cons, hb]
    · simp [h, h2]
theorem selOwn_nil {own : List (Option (List AV))} {σ : Nat → Option Nat} : ([] : List Nat).map (fun id => ((own[id]?).join).map (·.map (AV.ren σ))) = [] := rfl
theorem ren_row {α : Type} {f : α → AV} {σ : Nat → Option Nat} {l : List α} {k m : Nat} (h : ∀ x, AV.ren σ (f x) = f x) : (l.map f ++ spare k m).map (AV.ren σ) = l.map f ++ spare k m := by
  rw [List.map_append, List.map_map]
  congr 1
  · exact List.map_congr_left fun x _ => h x
  · simp [spare, AV.ren, AV.ren2, AV.ren1]
theorem ren_strs {σ : Nat → Option Nat} {l : List (List UInt8)} {m : Nat} : (l.map str ++ spare 1 m).map (AV.ren σ) = l.map str ++ spare 1 m := ren_row fun _ => rfl
attribute [go_sem] selAt_nil selAt_cons ren_strs Option.join_some Option.join_none
/-- Own blocks chosen and numbered anew, told. -/
theorem AWP.renum {E : Env} {c : Code} {Q : Exit → St → Prop} {s : St} (sel : List Nat) (hnd : sel.Nodup) (hrsv : s.rsv = none) (hup : s.up.map (AV.ren (selAt sel)) = s.up) (hw : AWP E c Q { s with tmps := s.tmps.map (AV.ren (selAt sel)), own := sel.map fun id => ((s.own[id]?).join).map (·.map (AV.ren (selAt sel))) }) : AWP E c Q s := AWP.norm sel hnd hrsv hup hw
attribute [go_sem] AV.ren AV.ren1 AV.ren2
end Go.Abs
namespace Go.Abs
open Go Go.RowKit
theorem bel_row {α : Type} {no nt k m : Nat} {f : α → AV} {l : List α} (h : ∀ x, ∀ z ∈ (f x).leaves, z.bel no nt = true) : ∀ es, some (l.map f ++ spare k m) = some es → ∀ e ∈ es, ∀ z ∈ e.leaves, z.bel no nt = true := by
  intro es he e hm z hz
  cases he
  rcases List.mem_append.1 hm with hm | hm
  · obtain ⟨x, _, rfl⟩ := List.mem_map.1 hm
    exact h x z hz
  · have := (List.mem_replicate.1 hm).2
    subst this
    have := (List.mem_replicate.1 hz).2
    subst this; rfl
theorem bel_strs {no nt m : Nat} {l : List (List UInt8)} : ∀ es, some (l.map str ++ spare 1 m) = some es → ∀ e ∈ es, ∀ z ∈ e.leaves, z.bel no nt = true := bel_row fun x z hz => by
  simp only [AV.leaves, List.mem_cons, List.not_mem_nil, or_false] at hz
  subst hz; rfl
theorem bel_all {no nt : Nat} {r : List AV} (h : ∀ es, some r = some es → ∀ e ∈ es, ∀ z ∈ e.leaves, z.bel no nt = true) : (r.all fun e => e.leaves.all fun z => z.bel no nt) = true := List.all_eq_true.2 fun e he => List.all_eq_true.2 fun z hz => h r rfl e he z hz
end Go.Abs
namespace Go.Abs
open Go Go.RowKit
theorem oblA {no nt : Nat} {r : List AV} (h : (r.all fun e => e.leaves.all (AV.bel no nt)) = true) : ∀ es, some r = some es → ∀ e ∈ es, ∀ z ∈ e.leaves, z.bel no nt = true := by
  intro es he e hm z hz
  cases he
  exact List.all_eq_true.1 (List.all_eq_true.1 h e hm) z hz
end Go.Abs
namespace Go.Abs
structure Stop (p : Prop) : Prop where
  out : p
theorem Stop.at {p : Prop} (h : Stop p) : p := h.out
theorem Stop.go {p : Prop} (h : p) : Stop p := ⟨h⟩
end Go.Abs
namespace Go.Abs
open Go Go.RowKit
theorem astep_mono {E : Env} {ops : Array Oper} {i : Nat} {C D : St → Prop} {st : St} (hcd : ∀ s, C s → D s) (h : AStep E ops i C st) : AStep E ops i D st := by
  unfold AStep at h ⊢
  split at h
  · exact hcd _ h
  · obtain ⟨q, h1, h2, h3⟩ := h
    exact ⟨q, h1, fun hq => aop_mono (h2 hq) hcd, fun hq => hcd _ (h3 hq)⟩
theorem aplan_mono {E : Env} {ops : Array Oper} {K L : St → Prop} (hk : ∀ s, K s → L s) : ∀ {p : Plan} {st : St}, APlan E ops K p st → APlan E ops L p st
  | .done, _, h => hk _ h
  | .take i p, _, h => astep_mono (fun s hs => aplan_mono hk hs) h
  | .fork p, _, h => aplan_mono (p := p) hk h
  | .alt i p r, _, h => ⟨astep_mono (fun s hs => aplan_mono hk hs) h.1, aplan_mono hk h.2⟩
  | .ends, _, h => h
/-- A region that draws its order, all orders of which come to one state. -/
theorem AWP.regionAnyJ {E : Env} {st : St} {id : Nat} {l : List Oper} {Q : Exit → St → Prop} (x : Plan) (anc : List (List Nat)) (ds : List Tmp) (hm : E.P.follows .mixedOrders = true)
    (hx : (listedOK l.toArray anc && planOK E.P l.toArray anc true x (Array.replicate l.toArray.size false) l.toArray.size) = true) (hd : ds.Nodup) (S : St) (h : APlan E l.toArray (Done fun s => s = S) x (st.keep ds)) (hk : Q .normal S) : AWP E (.region id l.toArray true) Q st :=
  AWP.regionAny x anc ds hm hx hd (aplan_mono (fun s (hs : Done (fun s => s = S) s) => (show Q .normal { s with rsv := none } from by
    have : ({ s with rsv := none } : St) = S := hs
    rw [this]; exact hk)) h)
end Go.Abs
