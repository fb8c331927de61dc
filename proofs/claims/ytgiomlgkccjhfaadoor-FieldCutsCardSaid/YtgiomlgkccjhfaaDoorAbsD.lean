/- Converting, slicing, building, the builtins that only look; all operations that leave the world alone in one theorem. -/
import Derived.Test.YtgiomlgkccjhfaaDoorAbsC
import Derived.Laws.IdiomStrings
namespace Go.Abs
open Go Go.RowKit
set_option linter.unusedVariables false
set_option linter.unusedSimpArgs false

section
variable {P : Program} {w0 : World} {im0 : Im} {c : Ctx} {st : St} {a : Act} {w : World}

def AConv (P : Program) (s d : TypeId) (x : AV) (k : AV → Prop) : Prop :=
  match P.underlying d with
  | some (.int kd) => (∃ ds, P.underlying s = some ds) ∧
    match x with
    | .v (.int _ n) => k (.v (.int kd (kd.wrap n)))
    | _ => False
  | some .string =>
    match x with
    | .v (.int _ n) => (∃ ds, P.underlying s = some ds) ∧ k (.v (.string ⟨(Utf8.encode n).data.toList.toArray⟩))
    | .v (.string z) => (∃ ds, P.underlying s = some ds) ∧ k (.v (.string z))
    | .nilS => (∃ e, P.underlying s = some (.slice e) ∧ P.underlying e = some (.int .u8)) ∧ k (.v (.string ⟨(([] : List UInt8)).toArray⟩))
    | .sl _ q es => (∃ e, P.underlying s = some (.slice e) ∧ P.underlying e = some (.int .u8)) ∧ q = 1 ∧ ∃ l : List UInt8, es = l.map u8 ∧ k (.v (.string ⟨l.toArray⟩))
    | _ => False
  | _ => False

theorem conv_ok (r : Rel w0 im0 c st a w) {s d : TypeId} {x : AV} {v : Value} (h : VR c x v) {k : AV → Prop} (hk : AConv P s d x k) :
    ∃ u y, (convert s d v).run P w = .ok u w ∧ VR c y u ∧ k y := by
  unfold AConv at hk
  split at hk
  · rename_i kd hd
    obtain ⟨⟨ds, hs⟩, hk⟩ := hk
    split at hk
    · rename_i kk n
      cases h.inv_v
      exact ⟨_, _, by simp [convert, underlying_run hs, underlying_run hd, Conv.intToInt], .base (.v _), hk⟩
    · exact hk.elim
  · rename_i hd
    split at hk
    · rename_i kk n
      cases h.inv_v
      obtain ⟨⟨ds, hs⟩, hk⟩ := hk
      refine ⟨_, _, ?_, .base (.v _), hk⟩
      simp [convert, underlying_run hs, underlying_run hd, Conv.intToString]
    · rename_i z
      cases h.inv_v
      obtain ⟨⟨ds, hs⟩, hk⟩ := hk
      refine ⟨_, _, ?_, .base (.v _), hk⟩
      simp [convert, underlying_run hs, underlying_run hd]
    · cases h.inv_nilS
      obtain ⟨⟨e, hs, he⟩, hk⟩ := hk
      refine ⟨_, _, ?_, .base (.v _), hk⟩
      rw [run_convert_bytes_string w s d e none 0 0 hs he hd]
      rfl
    · rename_i t' q es
      obtain ⟨⟨e, hs, he⟩, rfl, l, rfl, hk⟩ := hk
      refine ⟨_, _, ?_, .base (.v _), hk⟩
      obtain ⟨a', cap, rfl, _, hes⟩ := h.sl_base.inv_sl
      rcases hes with hes | ⟨b, o, rfl, hkk, cv, hm, _, hv⟩
      · have : l = [] := by simpa using hes
        subst this
        cases a' with
        | none => rw [run_convert_bytes_string w s d e none _ cap hs he hd]; rfl
        | some ad => exact run_convert_bytes_back w s d e ad cap [] hs he hd (by simp)
      · have hb := run_convert_bytes_back (P := P) w s d e ⟨b, o, none⟩ cap l hs he hd (fun j hj => by
          have h1 := hm j (u8 l[j]) 0 (u8 l[j]) (by simp [hj]) rfl
          have h2 := hv j (u8 l[j]) 0 (u8 l[j]) (by simp [hj]) rfl
          have h3 := r.imok _ _ _ h1
          have h4 : cv j 0 = .int .u8 (l[j].toNat : Int) := (VR.base (c := c) (VR0.mono (fun _ _ _ hh => hh) h2)).inv_v
          rw [add_none, ← h4, ← h3]
          simp)
        simpa using hb
    · exact hk.elim
  · exact hk.elim

/-- The bounds of a piece. -/
def bnd (x : Option AV) (d : Nat) : Option Int :=
  match x with
  | none => some d
  | some (.v (.int _ i)) => some i
  | _ => none
/-- The piece. -/
def cutHi {α : Type} (hi : Option AV) (l : List α) : List α :=
  match hi with
  | some (.v (.int _ h)) => l.take h.toNat
  | _ => l
def cutL {α : Type} (lo hi : Option AV) (l : List α) : List α :=
  match lo with
  | some (.v (.int _ i)) => (cutHi hi l).drop i.toNat
  | _ => cutHi hi l
def loTok (lo : Option AV) (t : Option Nat) : Option Nat :=
  match lo with
  | none => t
  | _ => none

def ASlice (P : Program) (t : TypeId) (x : AV) (lo hi : Option AV) (k : AV → Prop) : Prop :=
  match x with
  | .v (.string s) => P.underlying t = some .string ∧ ∃ l h, bnd lo 0 = some l ∧ bnd hi s.data.toList.length = some h ∧ 0 ≤ l ∧ l ≤ h ∧ h ≤ (s.data.toList.length : Int) ∧
      k (.v (.string ⟨(cutL lo hi s.data.toList).toArray⟩))
  | .sl t' q es => (∃ e, P.underlying t = some (.slice e) ∧ tsz P e = some q) ∧ ∃ l h, bnd lo 0 = some l ∧ bnd hi es.length = some h ∧ 0 ≤ l ∧ l ≤ h ∧ h ≤ (es.length : Int) ∧
      k (.sl (loTok lo t') q (cutL lo hi es))
  | .nilS => (∃ e n, P.underlying t = some (.slice e) ∧ tsz P e = some n) ∧ bnd lo 0 = some 0 ∧ bnd hi 0 = some 0 ∧ k .nilS
  | .mu id q off len => (∃ e n, P.underlying t = some (.slice e) ∧ tsz P e = some n) ∧ lo = none ∧ ∃ h, bnd hi len = some h ∧ 0 ≤ h ∧ h ≤ (len : Int) ∧ k (.mu id q off h.toNat)
  | _ => False

theorem bound_run {i : Int} {kd : IntKind} {y : Nat} {code : BoundsCode} (h0 : 0 ≤ i) (h1 : i ≤ y) : (Instr.sliceBound (.int kd i) y code).run P w = .ok i.toNat w := by
  simp [Instr.sliceBound, asIntOf, h0, h1]

/-- What the bounds come to. -/
theorem bounds_run {isS : Bool} {len cap : Nat} {lo hi : Option AV} {vl vh : Option Value} {l h : Int}
    (hlo : ∀ x, lo = some x → ∃ v, vl = some v ∧ VR c x v) (hlo0 : lo = none → vl = none) (hhi : ∀ x, hi = some x → ∃ v, vh = some v ∧ VR c x v) (hhi0 : hi = none → vh = none)
    (bl : bnd lo 0 = some l) (bh : bnd hi len = some h) (h0 : 0 ≤ l) (h1 : l ≤ h) (h2 : h ≤ len) (hc : len ≤ cap) :
    (Instr.sliceBounds isS len cap vl vh none).run P w = .ok (l.toNat, h.toNat, cap) w := by
  have hh : ∃ code, (match vh with | some v => Instr.sliceBound v cap code | none => pure len : Sem Nat).run P w = .ok h.toNat w := by
    refine ⟨if isS then .sliceAcap else .sliceAlen, ?_⟩
    cases hi with
    | none =>
      rw [hhi0 rfl]
      simp only [bnd, Option.some.injEq] at bh
      subst bh
      simp
    | some x =>
      obtain ⟨v, rfl, hv⟩ := hhi x rfl
      unfold bnd at bh
      split at bh
      · rename_i he; simp at he
      · rename_i kd i he
        simp only [Option.some.injEq] at he bh
        subst he; subst bh
        cases hv.inv_v
        exact bound_run (by omega) (by omega)
      · simp at bh
  have hl : ∀ code, (match vl with | some v => Instr.sliceBound v h.toNat code | none => pure 0 : Sem Nat).run P w = .ok l.toNat w := by
    intro code
    cases lo with
    | none =>
      rw [hlo0 rfl]
      simp only [bnd, Option.some.injEq] at bl
      subst bl
      simp
    | some x =>
      obtain ⟨v, rfl, hv⟩ := hlo x rfl
      unfold bnd at bl
      split at bl
      · rename_i he; simp at he
      · rename_i kd i he
        simp only [Option.some.injEq] at he bl
        subst he; subst bl
        cases hv.inv_v
        exact bound_run h0 (by omega)
      · simp at bl
  unfold Instr.sliceBounds
  cases hvh : vh with
  | none =>
    obtain ⟨code, hh⟩ := hh
    simp only [hvh, Sem.run_pure, Result.ok.injEq, and_true] at hh
    have hl' := hl .sliceB
    rw [← hh] at hl'
    cases vl with
    | none => simp only [Sem.run_pure, Result.ok.injEq, and_true] at hl'; simp [hh, ← hl']
    | some x => simp at hl'; simp [hh] at hl' ⊢; simp [hl']
  | some v =>
    have hbnd : (Instr.sliceBound v cap (if isS then BoundsCode.sliceAcap else .sliceAlen)).run P w = .ok h.toNat w := by
      cases hi with
      | none => rw [hhi0 rfl] at hvh; simp at hvh
      | some x =>
        obtain ⟨v', hv', hv⟩ := hhi x rfl
        rw [hvh] at hv'
        cases hv'
        unfold bnd at bh
        split at bh
        · rename_i he; simp at he
        · rename_i kd i he
          simp only [Option.some.injEq] at he bh
          subst he; subst bh
          cases hv.inv_v
          exact bound_run (by omega) (by omega)
        · simp at bh
    have hl' := hl .sliceB
    cases vl with
    | none => simp only [Sem.run_pure, Result.ok.injEq, and_true] at hl'; simp [hbnd, ← hl']
    | some x => simp at hl'; simp [hbnd, hl']

theorem cutL_eq {α : Type} {lo hi : Option AV} {xs : List α} {l h : Int} (bl : bnd lo 0 = some l) (bh : bnd hi xs.length = some h) : cutL lo hi xs = (xs.take h.toNat).drop l.toNat := by
  have e1 : cutHi hi xs = xs.take h.toNat := by
    unfold bnd at bh
    split at bh
    · simp only [Option.some.injEq] at bh; subst bh; simp [cutHi]
    · simp only [Option.some.injEq] at bh; subst bh; rfl
    · simp at bh
  unfold bnd at bl
  split at bl
  · simp only [Option.some.injEq] at bl; subst bl; simp [cutL, e1]
  · simp only [Option.some.injEq] at bl; subst bl; simp [cutL, e1]
  · simp at bl

theorem VR0.sl_cut {im : Im} {k : Nat} {es : List AV} {b : Option Addr} {n cap : Nat} (h : VR0 im (.sl none k es) (.slice b n cap)) {l q : Nat} (h1 : l ≤ q) (h2 : q ≤ es.length) :
    VR0 im (.sl none k ((es.take q).drop l)) (.slice (if cap = l then b else b.map (·.add (l * k))) (q - l) (cap - l)) := by
  obtain ⟨a, cap', hv, hcap, hes⟩ := h.inv_sl
  cases hv
  have hlen : ((es.take q).drop l).length = q - l := by simp; omega
  rcases hes with rfl | ⟨b', o, rfl, hkk, cv, hm, h11, hv⟩
  · simp only [List.length_nil, Nat.le_zero_eq] at h2
    subst h2
    simp only [Nat.le_zero_eq] at h1
    subst h1
    exact .sl0 k _ _
  · by_cases hql : q = l
    · subst hql
      have : (es.take q).drop q = [] := by apply List.eq_nil_of_length_eq_zero; simp
      rw [this, Nat.sub_self]
      exact .sl0 k _ _
    · rw [if_neg (by omega), ← hlen]
      simp only [Option.map_some, add_none]
      refine .sl k _ b' (o + l * k) (cap - l) (fun i j => cv (l + i) j) (by rw [hlen]; omega) ?_ ?_ ?_ ?_
      · intro i e he
        rw [List.getElem?_drop, List.getElem?_take] at he
        split at he
        · exact hkk _ _ he
        · simp at he
      · intro i e j x he hx
        rw [List.getElem?_drop, List.getElem?_take] at he
        split at he
        · have := hm _ _ _ _ he hx
          rw [Nat.add_mul, ← Nat.add_assoc] at this
          exact this
        · simp at he
      · intro i e j x he hx
        rw [List.getElem?_drop, List.getElem?_take] at he
        split at he
        · exact h11 _ _ _ _ he hx
        · simp at he
      · intro i e j x he hx
        rw [List.getElem?_drop, List.getElem?_take] at he
        split at he
        · exact hv _ _ _ _ he hx
        · simp at he

theorem slice_ok {t : TypeId} {x : AV} {v : Value} {lo hi : Option AV} {vl vh : Option Value} (h : VR c x v)
    (hlo : ∀ x, lo = some x → ∃ v, vl = some v ∧ VR c x v) (hlo0 : lo = none → vl = none) (hhi : ∀ x, hi = some x → ∃ v, vh = some v ∧ VR c x v) (hhi0 : hi = none → vh = none)
    {k : AV → Prop} (hk : ASlice P t x lo hi k) : ∃ u y, (Instr.sliceAt t v vl vh none).run P w = .ok u w ∧ VR c y u ∧ k y := by
  unfold ASlice at hk
  split at hk
  · rename_i s
    cases h.inv_v
    obtain ⟨hu, l, hh, bl, bh, h0, h1, h2, hk⟩ := hk
    have hb := bounds_run (P := P) (w := w) (isS := false) hlo hlo0 hhi hhi0 bl bh h0 h1 h2 (Nat.le_refl _)
    refine ⟨_, _, ?_, .base (.v _), hk⟩
    have hsz : s.size = s.data.toList.length := rfl
    rw [cutL_eq bl bh]
    have hx : s.extract l.toNat hh.toNat = ⟨((s.data.toList.take hh.toNat).drop l.toNat).toArray⟩ := by
      apply ByteArray.ext
      rw [ByteArray.data_extract]
      apply Array.ext'
      simp [Array.toList_extract, List.extract, List.drop_take]
    simp only [Instr.sliceAt, Sem.run_bind, underlying_run hu, Result.andThen_ok, Instr.slice]
    simp only [Option.isSome_none, Bool.false_eq_true, if_false, Sem.run_bind, hsz, hb, Result.andThen_ok, Sem.run_pure, hx]
  · rename_i t' q es
    obtain ⟨⟨e, hu, hs⟩, l, hh, bl, bh, h0, h1, h2, hk⟩ := hk
    have h3 := h.sl_base
    obtain ⟨a', cap, rfl, hcap, _⟩ := h3.inv_sl
    have hb := bounds_run (P := P) (w := w) (isS := true) hlo hlo0 hhi hhi0 bl bh h0 h1 h2 hcap
    have h4 := VR0.sl_cut h3 (l := l.toNat) (q := hh.toNat) (by omega) (by omega)
    have hrun : (Instr.sliceAt t (.slice a' es.length cap) vl vh none).run P w = .ok (.slice (if cap = l.toNat then a' else a'.map (·.add (l.toNat * q))) (hh.toNat - l.toNat) (cap - l.toNat)) w := by
      simp only [Instr.sliceAt, Sem.run_bind, underlying_run hu, Result.andThen_ok, Instr.slice, hb, tsz_run hs, Sem.run_pure]
    refine ⟨_, _, hrun, ?_, hk⟩
    rw [cutL_eq bl bh]
    cases lo with
    | some x => exact .base h4
    | none =>
      simp only [bnd, Option.some.injEq] at bl
      subst bl
      cases t' with
      | none => exact .base h4
      | some tt =>
        cases h with
        | base h => cases h
        | tok e' h0' hkq hle hcur =>
          have hl0 : ((0 : Nat) : Int).toNat = 0 := rfl
          rw [hl0] at h4 ⊢
          simp only [List.drop_zero, Nat.zero_mul, Nat.sub_zero] at h4 ⊢
          refine .tok e' h4 hkq (by simp only [List.length_take]; omega) (fun heq => ?_)
          have hlt : (es.take hh.toNat).length = hh.toNat := by simp only [List.length_take]; omega
          have hfull : es.length = hh.toNat := by omega
          rcases hcur (by omega) with ⟨hn0, hv⟩ | ⟨b, hb', hv⟩
          · refine .inl ⟨by rw [hlt]; omega, ?_⟩
            simp only [Value.slice.injEq] at hv
            obtain ⟨rfl, h5, rfl⟩ := hv
            rw [← hfull, h5]; simp
          · refine .inr ⟨b, hb', ?_⟩
            cases hv
            rw [hlt]
            split <;> simp [Addr.add]
  · cases h.inv_nilS
    obtain ⟨⟨e, n, hu, hs⟩, bl, bh, hk⟩ := hk
    have hb := bounds_run (P := P) (w := w) (isS := true) hlo hlo0 hhi hhi0 bl bh (by omega) (by omega) (by omega) (Nat.le_refl 0)
    refine ⟨.slice none 0 0, _, ?_, .base .nilS, hk⟩
    simp only [Instr.sliceAt, Sem.run_bind, underlying_run hu, Result.andThen_ok, Instr.slice, hb, tsz_run hs, Sem.run_pure]
    simp
  · rename_i id q off len
    obtain ⟨⟨e, n, hu, hs⟩, rfl, hh, bh, h0, h1, hk⟩ := hk
    obtain ⟨g, cap, hb', hcap, rfl⟩ := h.inv_mu
    have hb := bounds_run (P := P) (w := w) (isS := true) (lo := none) (l := 0) hlo hlo0 hhi hhi0 rfl bh (by omega) h0 h1 hcap
    refine ⟨.slice (some ⟨g, off * q, none⟩) hh.toNat cap, _, ?_, .mu hb' (by omega), hk⟩
    simp only [Instr.sliceAt, Sem.run_bind, underlying_run hu, Result.andThen_ok, Instr.slice, hb, tsz_run hs, Sem.run_pure]
    simp [Addr.add]
  · exact hk.elim
end
end Go.Abs
