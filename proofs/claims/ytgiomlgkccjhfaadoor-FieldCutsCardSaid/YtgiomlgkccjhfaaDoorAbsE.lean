/- Building, the builtins that only look; all operations that leave the world alone in one theorem. -/
import Derived.Test.YtgiomlgkccjhfaaDoorAbsD
namespace Go.Abs
open Go Go.RowKit
set_option linter.unusedVariables false
set_option linter.unusedSimpArgs false

/-- A type's zero value, its cells. -/
def AV.leafy : AV → Bool
  | .v x => x.oneCell'
  | .nilS | .sl _ _ _ | .mu _ _ _ _ | .ptr _ _ _ | .rptr _ | .fn _ _ => true
  | _ => false
def tzero (P : Program) (t : TypeId) : Option (List AV) :=
  match P.info? t with
  | some i => i.zero.bind fun z => if (z.cells.toList.map leafOf).all AV.leafy = true then some (z.cells.toList.map leafOf) else none
  | none => none
/-- The places of a struct's fields. -/
def places (P : Program) : List Field → Option (List (Nat × Nat))
  | [] => some []
  | f :: fs => match tsz P f.type, places P fs with
    | some n, some l => some ((f.offset, n) :: l)
    | _, _ => none

def putAll (cs : List AV) (off : Nat) : List AV → List AV
  | [] => cs
  | x :: r => putAll (cs.set off x) (off + 1) r
/-- May this value's leaves be told? -/
def AV.plain : AV → Bool
  | .any | .tup _ => false
  | .v x => x.oneCell'
  | _ => true
def afill (place : Nat → Option (Nat × Nat)) (cs : List AV) : List (Nat × AV) → Option (List AV)
  | [] => some cs
  | (i, x) :: rest =>
    match place i with
    | none => none
    | some (off, size) => if x.plain = true ∧ x.leaves.length = size ∧ off + size ≤ cs.length then afill place (putAll cs off x.leaves) rest else none

section
variable {P : Program} {w0 : World} {im0 : Im} {c : Ctx} {st : St} {a : Act} {w : World}

/-- Cells told by abstract values. -/
def Pw (c : Ctx) (cs : List AV) (vs : List Value) : Prop := vs.length = cs.length ∧ ∀ (i : Nat) (x : AV) (u : Value), cs[i]? = some x → vs[i]? = some u → VR c x u

theorem VR.leaves {x : AV} {v : Value} (h : VR c x v) (hp : x.plain = true) : Pw c x.leaves v.cells.toList := by
  have one : ∀ {x : AV}, x.leaves = [x] → VR c x v → v.cells = #[v] → Pw c x.leaves v.cells.toList := fun hl hv hc => by
    rw [hl, hc]
    refine ⟨rfl, fun i y u h1 h2 => ?_⟩
    cases i with
    | zero => simp only [List.getElem?_cons_zero, Option.some.injEq] at h1 h2; subst h1; subst h2; exact hv
    | succ i => simp at h1
  cases x with
  | any => simp [AV.plain] at hp
  | v y => have hy := h.inv_v; subst hy; exact one rfl h (by cases v <;> first | rfl | (simp [AV.plain, Value.oneCell'] at hp))
  | agg cs => obtain ⟨vs, rfl, hn, hh⟩ := h.inv_agg; exact ⟨by simpa [Value.cells, AV.leaves] using hn, by simpa [Value.cells, AV.leaves] using hh⟩
  | tup cs => simp [AV.plain] at hp
  | nilS => cases h.inv_nilS; exact one rfl h rfl
  | sl t k es => obtain ⟨b, cap, rfl, _⟩ := h.sl_base.inv_sl; exact one rfl h rfl
  | mu => obtain ⟨g, cap, _, _, rfl⟩ := h.inv_mu; exact one rfl h rfl
  | ptr => obtain ⟨g, k, _, rfl⟩ := h.inv_ptr; exact one rfl h rfl
  | rptr => obtain ⟨b, o, rfl, _⟩ := h.inv_rptr; exact one rfl h rfl
  | fn => obtain ⟨vs, rfl, _⟩ := h.inv_fn; exact one rfl h rfl

theorem Pw.set {cs : List AV} {vs : List Value} (h : Pw c cs vs) (i : Nat) {x : AV} {v : Value} (hv : VR c x v) : Pw c (cs.set i x) (vs.set i v) := by
  refine ⟨by simp [h.1], fun j y u h1 h2 => ?_⟩
  rw [List.getElem?_set] at h1 h2
  by_cases hij : i = j
  · subst hij
    rw [if_pos rfl] at h1 h2
    split at h1 <;> split at h2 <;> simp_all
  · rw [if_neg hij] at h1 h2
    exact h.2 _ _ _ h1 h2

/-- What the machine does to put cells. -/
def putV (vs : List Value) (off : Nat) : List Value → List Value
  | [] => vs
  | x :: r => putV (vs.set off x) (off + 1) r

theorem Pw.putAll {cs : List AV} {vs : List Value} (h : Pw c cs vs) : ∀ {xs : List AV} {us : List Value} (off : Nat), Pw c xs us → Pw c (putAll cs off xs) (putV vs off us) := by
  intro xs
  induction xs generalizing cs vs with
  | nil => intro us off hx; cases us with
    | nil => exact h
    | cons => simp [Pw] at hx
  | cons x xs ih => intro us off hx; cases us with
    | nil => simp [Pw] at hx
    | cons u us =>
      refine ih (h.set off (hx.2 0 x u rfl rfl)) (off + 1) ⟨by simpa using hx.1, fun i y v h1 h2 => hx.2 (i + 1) y v h1 h2⟩

theorem putV_foldl (us : List Value) : ∀ (vs : List Value) (off k : Nat), ((us.zipIdx k).foldl (fun (cs : Array Value) (p : Value × Nat) => cs.setIfInBounds (off + p.2) p.1) vs.toArray) = (putV vs (off + k) us).toArray := by
  induction us with
  | nil => intro vs off k; rfl
  | cons u us ih =>
    intro vs off k
    simp only [List.zipIdx_cons, List.foldl_cons, putV]
    rw [show (vs.toArray.setIfInBounds (off + k) u) = (vs.set (off + k) u).toArray by simp]
    exact ih _ _ _

theorem fill_ok {place : Nat → Option (Nat × Nat)} : ∀ {ps : List (Nat × AV)} {qs : List (Nat × Value)} {cs : List AV} {vs : List Value} {out : List AV}, Pw c cs vs →
    qs.map (·.1) = ps.map (·.1) → (∀ (i : Nat) (p : Nat × AV) (q : Nat × Value), ps[i]? = some p → qs[i]? = some q → VR c p.2 q.2) → afill place cs ps = some out →
    ∃ us : List Value, Instr.fill place vs.toArray qs = some us.toArray ∧ Pw c out us
  | [], qs, cs, vs, out, h, hm, _, hf => by
    cases qs with
    | nil => simp only [afill, Option.some.injEq] at hf; subst hf; exact ⟨vs, rfl, h⟩
    | cons => simp at hm
  | (i, x) :: ps, qs, cs, vs, out, h, hm, hv, hf => by
    cases qs with
    | nil => simp at hm
    | cons q qs =>
      obtain ⟨j, v⟩ := q
      simp only [List.map_cons, List.cons.injEq] at hm
      obtain ⟨rfl, hm⟩ := hm
      simp only [afill] at hf
      cases hpl : place j with
      | none => simp [hpl] at hf
      | some p =>
        obtain ⟨off, size⟩ := p
        simp only [hpl] at hf
        split at hf
        · rename_i hc
          obtain ⟨hp, hsz, hle⟩ := hc
          have hx := (hv 0 _ _ rfl rfl).leaves hp
          have hsize : v.cells.size = size := by have := hx.1; simp at this; omega
          have hlen : vs.length = cs.length := h.1
          have hstep := fill_ok (place := place) (h.putAll off hx) hm (fun i p q h1 h2 => hv (i + 1) p q h1 h2) hf
          obtain ⟨us, hu, hpw⟩ := hstep
          refine ⟨us, ?_, hpw⟩
          simp only [Instr.fill, hpl]
          rw [if_neg (by simp [hsize]; omega)]
          rw [← hu]
          congr 1
          have := putV_foldl v.cells.toList vs off 0
          rw [Nat.add_zero] at this
          rw [← this, ← Array.foldl_toList]
          simp
        · simp at hf

def evParts (st : St) (ps : Array (Nat × Operand)) : List (Nat × AV) := ps.toList.map fun p => (p.1, st.ev p.2)

def buildS (P : Program) (t : TypeId) : Option (List (Nat × Nat)) :=
  match P.underlying t with
  | some (.struct fs) => places P fs.toList
  | _ => none
def buildA (P : Program) (t : TypeId) : Option Nat :=
  match P.underlying t with
  | some (.array _ e) => tsz P e
  | _ => none
def ABuild (P : Program) (t : TypeId) (ps : List (Nat × AV)) (k : AV → Prop) : Prop :=
  ∃ z, tzero P t = some z ∧
  match buildS P t with
  | some pl => ∃ out, afill (pl[·]?) z ps = some out ∧ k (.agg out)
  | none =>
    match buildA P t with
    | some n => ∃ out, afill (fun i => some (i * n, n)) z ps = some out ∧ k (.agg out)
    | none => False

theorem tzero_run {t : TypeId} {z : List AV} (h : tzero P t = some z) : ∃ zv : Value, (zeroValue t).run P w = .ok zv w ∧ Pw c z zv.cells.toList ∧ z.all AV.leafy = true ∧ ∃ i, P.info? t = some i ∧ i.zero = some zv := by
  unfold tzero at h
  cases hi : P.info? t with
  | none => simp [hi] at h
  | some i =>
    simp only [hi] at h
    cases hz : i.zero with
    | none => simp [hz] at h
    | some zv =>
      simp only [hz, Option.bind_some] at h
      split at h
      case isFalse => simp at h
      rename_i hall
      simp only [Option.some.injEq] at h
      subst h
      refine ⟨zv, by simp [zeroValue, typeInfo, hi, hz], ⟨by simp, fun j x u h1 h2 => ?_⟩, hall, i, rfl, hz⟩
      simp only [List.getElem?_map, h2, Option.map_some, Option.some.injEq] at h1
      subst h1
      exact .base (leafOf_ok _ _)

theorem places_run : ∀ {fs : List Field} {pl : List (Nat × Nat)}, places P fs = some pl → (fs.mapM (fun f => do pure (f.offset, ← sizeOf f.type) : Field → Sem (Nat × Nat))).run P w = .ok pl w
  | [], pl, h => by simp only [places, Option.some.injEq] at h; subst h; simp
  | f :: fs, pl, h => by
    simp only [places] at h
    cases hs : tsz P f.type with
    | none => simp [hs] at h
    | some n =>
      cases hp : places P fs with
      | none => simp [hs, hp] at h
      | some l =>
        simp only [hs, hp, Option.some.injEq] at h
        subst h
        have ih := places_run hp
        simp only [List.mapM_cons, Sem.run_bind, tsz_run hs, Result.andThen_ok, Sem.run_pure, ih]

theorem build_ok (r : Rel w0 im0 c st a w) {t : TypeId} {ps : Array (Nat × Operand)} {k : AV → Prop} (hk : ABuild P t (evParts st ps) k) :
    ∃ u y, (Instr.build t (ps.map fun (i, x) => (i, a.eval x))).run P w = .ok u w ∧ VR c y u ∧ k y := by
  obtain ⟨z, hz, hk⟩ := hk
  obtain ⟨zv, hrun, hpw, _⟩ := tzero_run (P := P) (w := w) (c := c) hz
  have hm : ((ps.map fun (i, x) => (i, a.eval x)).toList.map (·.1)) = (evParts st ps).map (·.1) := by simp [evParts]
  have hv : ∀ (i : Nat) (p : Nat × AV) (q : Nat × Value), (evParts st ps)[i]? = some p → (ps.map fun (i, x) => (i, a.eval x)).toList[i]? = some q → VR c p.2 q.2 := by
    intro i p q h1 h2
    simp only [evParts, Array.toList_map, List.getElem?_map] at h1 h2
    cases hp : ps.toList[i]? with
    | none => simp [hp] at h1
    | some y =>
      simp only [hp, Option.map_some, Option.some.injEq] at h1 h2
      subst h1; subst h2
      exact r.ev y.2
  have hcells : zv.cells = zv.cells.toList.toArray := by simp
  split at hk
  · rename_i pl hpl0
    obtain ⟨out, hf, hk⟩ := hk
    have hfs : ∃ fs, P.underlying t = some (.struct fs) ∧ places P fs.toList = some pl := by
      unfold buildS at hpl0
      split at hpl0
      · rename_i fs hu; exact ⟨fs, hu, hpl0⟩
      · simp at hpl0
    obtain ⟨fs, hu, hpl⟩ := hfs
    obtain ⟨us, hus, hpo⟩ := fill_ok hpw hm hv hf
    refine ⟨.agg us.toArray, .agg out, ?_, .agg _ _ hpo.1 hpo.2, hk⟩
    have hpr := places_run (w := w) hpl
    have hpm : (fs.mapM (fun f => do pure (f.offset, ← sizeOf f.type) : Field → Sem (Nat × Nat))).run P w = .ok pl.toArray w := by
      rw [Array.mapM_eq_mapM_toList]
      simp only [Sem.run_map, hpr, Result.andThen_ok]
    simp only [Instr.build, Sem.run_bind, hrun, Result.andThen_ok, underlying_run hu, hpm]
    rw [hcells] at hus ⊢
    simp only [List.getElem?_toArray]
    simp at hus
    simp [hus]
  · split at hk
    · rename_i n hn0
      obtain ⟨out, hf, hk⟩ := hk
      have hfs : ∃ l e, P.underlying t = some (.array l e) ∧ tsz P e = some n := by
        unfold buildA at hn0
        split at hn0
        · rename_i l e hu; exact ⟨l, e, hu, hn0⟩
        · simp at hn0
      obtain ⟨l, e, hu, hs⟩ := hfs
      obtain ⟨us, hus, hpo⟩ := fill_ok hpw hm hv hf
      refine ⟨.agg us.toArray, .agg out, ?_, .agg _ _ hpo.1 hpo.2, hk⟩
      simp only [Instr.build, Sem.run_bind, hrun, Result.andThen_ok, underlying_run hu, tsz_run hs]
      rw [hcells] at hus ⊢
      simp at hus
      simp [hus]
    · exact hk.elim

def ALen (P : Program) (t : TypeId) (x : AV) (k : AV → Prop) : Prop :=
  match x with
  | .v (.string s) => P.underlying t = some .string ∧ k (.v (.int .i64 (s.data.toList.length : Nat)))
  | .sl _ _ es => (∃ e, P.underlying t = some (.slice e)) ∧ k (.v (.int .i64 (es.length : Nat)))
  | .mu _ _ _ n => (∃ e, P.underlying t = some (.slice e)) ∧ k (.v (.int .i64 (n : Nat)))
  | .nilS => (∃ e, P.underlying t = some (.slice e)) ∧ k (.v (.int .i64 0))
  | _ => False

theorem len_ok {t ty : TypeId} {x : AV} {v : Value} (h : VR c x v) {k : AV → Prop} (hk : ALen P t x k) :
    ∃ u y, (Builtin.len_ #[t] ty #[v]).run P w = .ok u w ∧ VR c y u ∧ k y := by
  unfold ALen at hk
  split at hk
  · rename_i s
    cases h.inv_v
    refine ⟨_, _, ?_, .base (.v _), hk.2⟩
    simp [Builtin.len_, underlying_run hk.1, goInt]
  · obtain ⟨⟨e, hu⟩, hk⟩ := hk
    obtain ⟨b, cap, rfl, _⟩ := h.sl_base.inv_sl
    exact ⟨_, _, by simp [Builtin.len_, underlying_run hu, goInt], .base (.v _), hk⟩
  · obtain ⟨⟨e, hu⟩, hk⟩ := hk
    obtain ⟨g, cap, _, _, rfl⟩ := h.inv_mu
    exact ⟨_, _, by simp [Builtin.len_, underlying_run hu, goInt], .base (.v _), hk⟩
  · obtain ⟨⟨e, hu⟩, hk⟩ := hk
    cases h.inv_nilS
    exact ⟨_, _, by simp [Builtin.len_, underlying_run hu, goInt], .base (.v _), hk⟩
  · exact hk.elim

def AMinMax (mx : Bool) (x y : AV) (k : AV → Prop) : Prop :=
  match x, y with
  | .v (.int kd a), .v (.int _ b) => k (.v (.int kd (bif mx then max a b else min a b)))
  | _, _ => False

def AIface (P : Program) (t : TypeId) (x : AV) (k : AV → Prop) : Prop :=
  match x with
  | .v y => P.concrete t = true ∧ k (.v (.iface t y))
  | _ => False

def AFn (fn : Fn) (first cs : List AV) (k : AV → Prop) : Prop :=
  match fn, first with
  | .func f, [] => k (.fn f cs)
  | _, _ => False

/-- The operations that leave the world alone. -/
def ALight (P : Program) (st : St) (op : Op) (k : AV → Prop) : Prop :=
  match op with
  | .move x | .assign x => k (st.ev x)
  | .pick x y z => APick (st.ev x) (st.ev y) (st.ev z) k
  | .load t x => ALoad P st t (st.ev x) k
  | .nilCheck x => ANil (st.ev x) k
  | .binOp op t x y _ => (st.ev y = .v .nilIface → ∃ z, y = .const z) ∧ ABin P op t (st.ev x) (st.ev y) k
  | .unOp op _ x => AUn op (st.ev x) k
  | .convert s d x => AConv P s d (st.ev x) k
  | .slice t x lo hi mx => mx = none ∧ ASlice P t (st.ev x) (lo.map st.ev) (hi.map st.ev) k
  | .fieldAddr s x f => AFieldAddr P s (st.ev x) f k
  | .field t x f => AField P t (st.ev x) f k
  | .indexAddr t x i => AIndexAddr P t (st.ev x) (st.ev i) k
  | .index t x i => AIndex P t (st.ev x) (st.ev i) k
  | .extract x i => AExtract (st.ev x) i k
  | .build t ps => ABuild P t (evParts st ps) k
  | .makeInterface t x => AIface P t (st.ev x) k
  | .makeFunc fn first cs => AFn fn (first.toList.map st.ev) (cs.toList.map st.ev) k
  | .call c =>
    match c.callee, c.args.toList, c.argTypes.toList with
    | .builtin .len, [x], [t] => ALen P t (st.ev x) k
    | .builtin .min, [x, y], _ => AMinMax false (st.ev x) (st.ev y) k
    | .builtin .max, [x, y], _ => AMinMax true (st.ev x) (st.ev y) k
    | _, _, _ => False
  | _ => False

theorem VR.nilIface_const {x : AV} (h : VR c x .nilIface) : x = .v .nilIface ∨ x = .any := by
  cases h with
  | base h => cases h with
    | any => exact .inr rfl
    | v => exact .inl rfl
  | tok _ h0 => cases h0

theorem light_sound (r : Rel w0 im0 c st a w) {o : Oper} {k : AV → Prop} (hk : ALight P st o.op k) : ∃ v x, (execOp a.eval o).run P w = .ok (.value v) w ∧ VR c x v ∧ k x := by
  have val : ∀ {s : Sem Value}, (∃ u y, s.run P w = .ok u w ∧ VR c y u ∧ k y) → (execOp a.eval o = do pure (.value (← s))) → ∃ v x, (execOp a.eval o).run P w = .ok (.value v) w ∧ VR c x v ∧ k x := by
    rintro s ⟨u, y, h1, h2, h3⟩ he
    exact ⟨u, y, by rw [he]; simp [h1], h2, h3⟩
  obtain ⟨dst, op, type, pos, after, guard⟩ := o
  cases op <;> simp only [ALight] at hk <;> first | exact hk.elim | skip
  case move x => exact ⟨_, _, rfl, r.ev x, hk⟩
  case assign x => exact ⟨_, _, rfl, r.ev x, hk⟩
  case pick x y z =>
    unfold APick at hk
    split at hk
    · rename_i b hx
      have hv := r.ev x
      rw [hx] at hv
      have hv := hv.inv_v
      refine ⟨if b then a.eval y else a.eval z, bif b then st.ev y else st.ev z, ?_, ?_, hk⟩
      · simp only [execOp, hv, asBool]; rfl
      · cases b
        · exact r.ev z
        · exact r.ev y
    · exact hk.elim
  case load t x => exact val (load_ok r (r.ev x) hk) rfl
  case nilCheck x =>
    unfold ANil at hk
    have hv := r.ev x
    split at hk
    · rename_i hx
      rw [hx] at hv
      obtain ⟨g, q, hb, he⟩ := hv.inv_ptr
      refine ⟨a.eval x, _, ?_, by rw [hx]; exact hv, hk⟩
      simp only [execOp, he]; rfl
    · rename_i hx
      rw [hx] at hv
      obtain ⟨b, q, he, hb⟩ := hv.inv_rptr
      refine ⟨a.eval x, _, ?_, by rw [hx]; exact hv, hk⟩
      simp only [execOp, he]; rfl
    · rename_i hx
      rw [hx] at hv
      have he := hv.inv_v
      refine ⟨a.eval x, _, ?_, by rw [hx]; exact hv, hk⟩
      simp only [execOp, he]; rfl
    · exact hk.elim
  case binOp op t x y yt =>
    have hcx : (a.eval y = .nilIface → ∃ z, y = .const z) := fun he => by
      have hv := r.ev y
      rw [he] at hv
      rcases hv.nilIface_const with h | h
      · exact hk.1 h
      · have h2 := hk.2
        rw [h] at h2
        simp only [ABin] at h2
        cases op <;> simp only [AEq] at h2
        all_goals (split at h2 <;> first | exact h2.elim | simp_all)
    obtain ⟨hg, z, u, h1, h2, h3⟩ := bin_ok (w := w) (r.ev x) (r.ev y) hk.2 x y hcx
    refine ⟨u, z, ?_, h2, h3⟩
    simp only [execOp, Sem.run_bind, hg, Result.andThen_ok, h1, Sem.run_pure]
  case unOp op t x => exact val (un_ok (r.ev x) hk) rfl
  case convert s d x => exact val (conv_ok r (r.ev x) hk) rfl
  case slice t x lo hi mx =>
    obtain ⟨rfl, hk⟩ := hk
    refine val (slice_ok (r.ev x) (vl := lo.map a.eval) (vh := hi.map a.eval) ?_ ?_ ?_ ?_ hk) rfl
    · intro y hy; cases lo with
      | none => simp at hy
      | some z => simp only [Option.map_some, Option.some.injEq] at hy; subst hy; exact ⟨_, rfl, r.ev z⟩
    · intro h; cases lo with
      | none => rfl
      | some z => simp at h
    · intro y hy; cases hi with
      | none => simp at hy
      | some z => simp only [Option.map_some, Option.some.injEq] at hy; subst hy; exact ⟨_, rfl, r.ev z⟩
    · intro h; cases hi with
      | none => rfl
      | some z => simp at h
  case fieldAddr s x f => exact val (fieldAddr_ok (r.ev x) hk) rfl
  case field t x f => exact val (field_ok (r.ev x) hk) rfl
  case indexAddr t x i => exact val (indexAddr_ok (r.ev x) (r.ev i) hk) rfl
  case index t x i => exact val (index_ok (r.ev x) (r.ev i) hk) rfl
  case extract x i => exact val (extract_ok (r.ev x) hk) rfl
  case build t ps => exact val (build_ok r hk) rfl
  case makeInterface t x =>
    unfold AIface at hk
    split at hk
    · rename_i y hx
      have hv := r.ev x
      rw [hx] at hv
      refine val ⟨_, _, ?_, .base (.v _), hk.2⟩ rfl
      rw [hv.inv_v]
      exact run_makeInterface w t y hk.1
    · exact hk.elim
  case makeFunc fn first cs =>
    unfold AFn at hk
    split at hk
    · rename_i f hf
      have hf0 : first = #[] := by
        apply Array.ext'
        simpa using hf
      subst hf0
      refine ⟨_, _, rfl, ?_, hk⟩
      have e1 : Array.map a.eval cs = (List.map a.eval cs.toList).toArray := by rw [← Array.toList_map, Array.toArray_toList]
      have e2 : VR c (.fn f (cs.toList.map st.ev)) (.func (.func f) #[] (List.map a.eval cs.toList).toArray) := by
        refine .fn f (cs.toList.map st.ev) (cs.toList.map a.eval) (by rw [List.length_map, List.length_map]) (fun i x u h1 h2 => ?_)
        rw [List.getElem?_map] at h1 h2
        cases hc : cs.toList[i]? with
        | none => simp [hc] at h1
        | some y => simp only [hc, Option.map_some, Option.some.injEq] at h1 h2; subst h1; subst h2; exact r.ev y
      rw [← e1] at e2
      simpa using e2
    · exact hk.elim
  case call cl =>
    obtain ⟨callee, args, tys⟩ := cl
    simp only at hk
    split at hk
    · rename_i x t hargs htys
      have ha : args = #[x] := by apply Array.ext'; simpa using hargs
      have ht : tys = #[t] := by apply Array.ext'; simpa using htys
      subst ha; subst ht
      obtain ⟨u, y, h1, h2, h3⟩ := len_ok (w := w) (ty := type) (r.ev x) hk
      refine ⟨u, y, ?_, h2, h3⟩
      simp only [execOp, resolve, Sem.run_bind, Sem.run_pure, Result.andThen_ok, invoke, builtin, List.map_toArray, List.map_cons, List.map_nil, h1]
    · rename_i x y hargs
      have ha : args = #[x, y] := by apply Array.ext'; simpa using hargs
      subst ha
      unfold AMinMax at hk
      split at hk
      · rename_i kd p kd' q hx hy
        have h1 := r.ev x
        have h2 := r.ev y
        rw [hx] at h1
        rw [hy] at h2
        refine ⟨_, _, ?_, .base (.v _), hk⟩
        simp only [execOp, resolve, Sem.run_bind, Sem.run_pure, Result.andThen_ok, invoke, builtin, List.map_toArray, List.map_cons, List.map_nil, h1.inv_v, h2.inv_v, Builtin.min_]
        simp only [List.foldlM_cons, List.foldlM_nil, Builtin.min2]
        have : (if q < p then q else p) = min p q := by simp only [Int.min_def]; split <;> split <;> omega
        simp [this]
      · exact hk.elim
    · rename_i x y hargs
      have ha : args = #[x, y] := by apply Array.ext'; simpa using hargs
      subst ha
      unfold AMinMax at hk
      split at hk
      · rename_i kd p kd' q hx hy
        have h1 := r.ev x
        have h2 := r.ev y
        rw [hx] at h1
        rw [hy] at h2
        refine ⟨_, _, ?_, .base (.v _), hk⟩
        simp only [execOp, resolve, Sem.run_bind, Sem.run_pure, Result.andThen_ok, invoke, builtin, List.map_toArray, List.map_cons, List.map_nil, h1.inv_v, h2.inv_v, Builtin.max_]
        simp only [List.foldlM_cons, List.foldlM_nil, Builtin.max2]
        have : (if q > p then q else p) = max p q := by simp only [Int.max_def]; split <;> split <;> omega
        simp [this]
      · exact hk.elim
    · exact hk.elim
end
end Go.Abs
