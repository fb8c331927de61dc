/- Appending; a string's bytes as a slice. -/
import Derived.Test.YtgiomlgkccjhfaaDoorAbsH
namespace Go.Abs
open Go Go.RowKit
set_option linter.unusedVariables false
set_option linter.unusedSimpArgs false

section
variable {P : Program} {w0 : World} {im0 : Im} {c : Ctx} {st : St} {a : Act} {w : World}

/-- What is appended: its elements. -/
def ASrc (x : AV) (k : Nat) : Option (List AV) :=
  match x with
  | .sl _ q xs => if q = k then some xs else none
  | .nilS => some []
  | .v (.string s) => if k = 1 then some (s.data.toList.map u8) else none
  | _ => none
def srcTy (P : Program) (t : TypeId) : Bool :=
  match P.underlying t with
  | some (.int _) | none => false
  | _ => true

theorem div_mod_eq (p q : Nat) : p / q * q + p % q = p := by rw [Nat.mul_comm]; exact Nat.div_add_mod p q

theorem list_map_range {α : Type} (n : Nat) (f : Nat → α) (p : Nat) (h : p < n) : ((List.range n).map f)[p]? = some (f p) := by
  simp [h]

theorem src_ok (r : Rel w0 im0 c st a w) {x : AV} {v : Value} (h : VR c x v) {k : Nat} (hk : 0 < k) {xs : List AV} (hs : ASrc x k = some xs) :
    ∃ news : List Value, news.length = xs.length * k ∧ Cells c.im k xs news ∧ (∀ w', (Builtin.lenOf v).run P w' = .ok xs.length w') ∧
      (∀ u ∈ news, u.oneCell' = true) ∧
      ∀ w', (∀ b o, w'.cell? ⟨b, o, none⟩ = w.cell? ⟨b, o, none⟩) → (Builtin.firstCells k xs.length v).run P w' = .ok news.toArray w' := by
  unfold ASrc at hs
  split at hs
  · rename_i t q xs'
    split at hs
    case isFalse => simp at hs
    rename_i hq
    subst hq
    simp only [Option.some.injEq] at hs; subst hs
    obtain ⟨a', cap, rfl, hcap, hes⟩ := h.sl_base.inv_sl
    rcases hes with rfl | ⟨b, o, rfl, hkk, cv, hm, h11, hv⟩
    · refine ⟨[], by simp, ⟨by simp, by simp⟩, fun w' => by simp [Builtin.lenOf], by simp, fun w' _ => ?_⟩
      cases a' with
      | none => simp [Builtin.firstCells]
      | some ad => simp [Builtin.firstCells, loadCells, loadCellsFrom]
    · have hdiv : ∀ p, p < xs'.length * q → p / q < xs'.length := fun p hp => Nat.div_lt_of_lt_mul (by rw [Nat.mul_comm]; exact hp)
      have hleaf : ∀ p, p < xs'.length * q → ∃ e y, xs'[p / q]? = some e ∧ e.leaves[p % q]? = some y := fun p hp => by
        have h1 := hdiv p hp
        have h2 := hkk (p / q) xs'[p / q] (by simp [h1])
        have h3 : p % q < xs'[p / q].leaves.length := by rw [h2]; exact Nat.mod_lt _ hk
        exact ⟨xs'[p / q], xs'[p / q].leaves[p % q], List.getElem?_eq_getElem h1, List.getElem?_eq_getElem h3⟩
      have hget : ∀ p, p < xs'.length * q → w.cell? ⟨b, o + p, none⟩ = some (cv (p / q) (p % q)) := fun p hp => by
        obtain ⟨e, y, h1, h2⟩ := hleaf p hp
        have := r.imok _ _ _ (hm _ _ _ _ h1 h2)
        rw [Nat.add_assoc, div_mod_eq] at this
        exact this
      refine ⟨(List.range (xs'.length * q)).map (fun p => cv (p / q) (p % q)), by simp, ⟨hkk, fun i e j y he hy => ?_⟩, fun w' => by simp [Builtin.lenOf], ?_, fun w' hw' => ?_⟩
      · have hj : j < q := by rw [← hkk i e he]; exact lt_of_get hy
        have hlt := idx_lt (lt_of_get he) hj
        rw [list_map_range _ _ _ hlt]
        have e1 : (i * q + j) / q = i := by rw [Nat.mul_comm, Nat.mul_add_div hk, Nat.div_eq_of_lt hj, Nat.add_zero]
        have e2 : (i * q + j) % q = j := by rw [Nat.mul_comm, Nat.mul_add_mod, Nat.mod_eq_of_lt hj]
        exact ⟨_, rfl, by rw [e1, e2]; exact hv _ _ _ _ he hy, by rw [e1, e2]; exact h11 _ _ _ _ he hy⟩
      · intro u hu
        simp only [List.mem_map, List.mem_range] at hu
        obtain ⟨p, hp, rfl⟩ := hu
        obtain ⟨e, y, h1, h2⟩ := hleaf p hp
        exact h11 _ _ _ _ h1 h2
      · exact run_firstCells_some w' q xs'.length ⟨b, o, none⟩ xs'.length cap _ (by simp) (fun j u hj => by
          have hlt : j < xs'.length * q := by have := lt_of_get hj; simpa using this
          rw [list_map_range _ _ _ hlt] at hj
          rw [add_none, hw' b (o + j), hget j hlt]; exact hj)
  · simp only [Option.some.injEq] at hs; subst hs
    cases h.inv_nilS
    exact ⟨[], by simp, ⟨by simp, by simp⟩, fun w' => by simp [Builtin.lenOf], by simp, fun w' _ => by simp [Builtin.firstCells]⟩
  · rename_i s
    split at hs
    case isFalse => simp at hs
    rename_i hq
    subst hq
    simp only [Option.some.injEq] at hs; subst hs
    cases h.inv_v
    refine ⟨s.data.toList.map (fun b => Value.int .u8 (b.toNat : Int)), by simp, ⟨fun i e he => ?_, fun i e j y he hy => ?_⟩, fun w' => ?_, ?_, fun w' _ => ?_⟩
    · rw [List.getElem?_map] at he
      cases hb : s.data.toList[i]? with
      | none => simp [hb] at he
      | some b => simp only [hb, Option.map_some, Option.some.injEq] at he; subst he; rfl
    · rw [List.getElem?_map] at he
      cases hb : s.data.toList[i]? with
      | none => simp [hb] at he
      | some b =>
        simp only [hb, Option.map_some, Option.some.injEq] at he; subst he
        cases j with
        | succ j => simp [u8, AV.leaves] at hy
        | zero =>
          simp only [u8, AV.leaves, List.getElem?_cons_zero, Option.some.injEq] at hy; subst hy
          exact ⟨.int .u8 (b.toNat : Int), by simp only [Nat.mul_one, Nat.add_zero, List.getElem?_map, hb, Option.map_some], .v _, rfl⟩
    · simp [Builtin.lenOf]
    · intro u hu
      simp only [List.mem_map] at hu
      obtain ⟨b, _, rfl⟩ := hu
      rfl
    · simp only [Builtin.firstCells, Sem.run_pure]
      congr 1
      apply Array.ext'
      have : (s.extract 0 (s.data.toList.map u8).length) = s := by
        have h1 : (s.data.toList.map u8).length = s.size := by simp
        rw [h1]
        apply ByteArray.ext
        rw [ByteArray.data_extract]
        apply Array.ext'
        have h2 : s.size = s.data.toList.length := rfl
        simp only [Array.toList_extract, List.extract, List.drop_zero, Nat.sub_zero, h2, List.take_length]
      rw [this]
      simp only [Array.toList_map]
  · simp at hs

theorem run_append_place {t tx ty e : TypeId} {k : Nat} (hu : P.underlying t = some (.slice e)) (hs : tsz P e = some k) (hx : srcTy P tx = true) {base : Option Addr} {n cap m : Nat} {xv : Value} {news : List Value}
    (hl : (Builtin.lenOf xv).run P w = .ok m w) (hf : (Builtin.firstCells k m xv).run P w = .ok news.toArray w) (hfit : n + m ≤ cap) :
    (Builtin.append_ #[t, tx] ty #[.slice base n cap, xv]).run P w =
      ((match base with | some a => storeCells (a.add (n * k)) news | none => pure () : Sem Unit).run P w).andThen fun _ w' => .ok (.slice base (n + m) cap) w' := by
  unfold srcTy at hx
  cases hd : P.underlying tx with
  | none => simp [hd] at hx
  | some d =>
    unfold Builtin.append_
    cases d <;> first
      | (simp [hd] at hx; done)
      | (simp only [List.getElem?_toArray, List.getElem?_cons_zero, List.getElem?_cons_succ, Sem.run_bind, underlying_run hu, Result.andThen_ok, tsz_run hs, underlying_run hd, Sem.run_pure, Bool.false_eq_true, if_false, hl]
         rw [if_pos hfit]
         cases base <;> simp [hf])

theorem run_append_new {t tx ty e : TypeId} {k : Nat} {i : TypeInfo} {z : Value} (hu : P.underlying t = some (.slice e)) (hi : P.info? e = some i) (hz : i.zero = some z) (hk : i.size = k) (hx : srcTy P tx = true)
    {base : Option Addr} {n cap m : Nat} {xv : Value} {olds news : List Value} (hl : (Builtin.lenOf xv).run P w = .ok m w)
    (hfo : (Builtin.firstCells k n (.slice base n cap)).run P w.drew = .ok olds.toArray w.drew) (hf : (Builtin.firstCells k m xv).run P w.drew = .ok news.toArray w.drew)
    (hfit : cap < n + m) (h63 : n + m ≤ 9223372036854775807) (hb : (n + m) * i.bytes ≤ 140737488355328) :
    (Builtin.append_ #[t, tx] ty #[.slice base n cap, xv]).run P w =
      .ok (.slice (some ⟨w.heap.size, 0, none⟩) (n + m) (grownCap w (n + m) cap e))
        (w.drew.alloc (.cells (olds.toArray ++ news.toArray ++ Builtin.zeroCells z.cells (grownCap w (n + m) cap e - (n + m))) e)) := by
  unfold srcTy at hx
  have hs : tsz P e = some k := by simp [tsz, hi, hk]
  cases hd : P.underlying tx with
  | none => simp [hd] at hx
  | some d =>
    have hgf := growslice_fits hfit hb
    have hti : ∀ w : World, (typeInfo e).run P w = .ok i w := fun w => by simp [typeInfo, hi]
    have hzv : ∀ w : World, (zeroValue e).run P w = .ok z w := fun w => by simp [zeroValue, typeInfo, hi, hz]
    have hA : ¬ (((n + m : Nat) : Int) > IntKind.i64.max ∧ (False ∨ i.bytes = 0)) := by
      have : IntKind.i64.max = 9223372036854775807 := by decide
      rw [this]; omega
    have hB : ¬ (Builtin.nextslicecap (n + m) cap * i.bytes > 2 ^ 48) := by omega
    unfold Builtin.append_
    cases d <;> first
      | (simp [hd] at hx; done)
      | (simp only [List.getElem?_toArray, List.getElem?_cons_zero, List.getElem?_cons_succ, Sem.run_bind, underlying_run hu, Result.andThen_ok, tsz_run hs, underlying_run hd, Sem.run_pure, Bool.false_eq_true, if_false, hl]
         rw [if_neg (by omega)]
         simp only [Sem.run_bind, hti, Result.andThen_ok]
         rw [if_neg hA]
         simp only [Sem.run_bind, hti, Result.andThen_ok]
         rw [if_neg hB]
         simp [hti, hzv, hf, hfo, Question.forced, newRow, grownCap]
         congr 2
         apply Array.ext'
         simp [List.append_assoc])

def AAppend (P : Program) (t tx : TypeId) (s x : AV) (st : St) (K : St → AV → Prop) : Prop :=
  srcTy P tx = true ∧ ∃ e k n xs, appInfo P t = some (e, k, n) ∧ ASrc x k = some xs ∧
    match s with
    | .sl (some tk) q es => q = k ∧ st.tk[tk]? = some es.length ∧ es.length + xs.length ≤ 4611686018427387904 ∧ (es.length + xs.length) * n ≤ 140737488355328 ∧
        K { st with tk := st.tk.set tk (es.length + xs.length) } (.sl (some tk) k (es ++ xs))
    | .nilS => xs.length ≤ 4611686018427387904 ∧ xs.length * n ≤ 140737488355328 ∧ K { st with tk := st.tk ++ [xs.length] } (.sl (some st.tk.length) k xs)
    | _ => False

theorem Rel.nilTok (r : Rel w0 im0 c st a w) (k : Nat) : ∃ c', c.le c' ∧ Rel w0 im0 c' { st with tk := st.tk ++ [0] } a w ∧ VR c' (.sl (some st.tk.length) k []) (.slice none 0 0) := by
  obtain ⟨h1, h2⟩ := r.addToks (Below.refl _ _) (im' := c.im) (tks := [⟨none, 0, 0, k⟩]) (.refl _) r.imok (fun _ _ _ => rfl)
    ⟨fun i T b hT hTb => by
      cases i with
      | succ i => simp at hT
      | zero => simp only [List.getElem?_cons_zero, Option.some.injEq] at hT; subst hT; simp at hTb,
     fun i j T U b d hT hU _ _ hij => by
      cases i with
      | succ i => simp at hT
      | zero => cases j with
        | zero => exact absurd rfl hij
        | succ j => simp at hU⟩
  exact ⟨_, h1, h2, .tok (T := ⟨none, 0, 0, k⟩) (by simp [← r.tklen]) (.sl0 k none 0) rfl (Nat.le_refl _) (fun _ => .inl ⟨rfl, rfl⟩)⟩

theorem zeroCells_size (z : Array Value) (n : Nat) : (Builtin.zeroCells z n).size = n * z.size := by simp [Builtin.zeroCells]

/-- Appending to a slice whose token is its own. -/
theorem append_tok (r : Rel w0 im0 c st a w) {t tx ty e : TypeId} {k n : Nat} (hx : srcTy P tx = true) (hai : appInfo P t = some (e, k, n)) {x : AV} {xv : Value} (hxv : VR c x xv) {xs : List AV} (hsrc : ASrc x k = some xs)
    {tk : Nat} {es : List AV} {v : Value} (hv : VR c (.sl (some tk) k es) v) (htk : st.tk[tk]? = some es.length) (h62 : es.length + xs.length ≤ 4611686018427387904) (hbt : (es.length + xs.length) * n ≤ 140737488355328) :
    ∃ v' w' c', (Builtin.append_ #[t, tx] ty #[v, xv]).run P w = .ok v' w' ∧ Rel w0 im0 c' { st with tk := st.tk.set tk (es.length + xs.length) } a w' ∧ VR c' (.sl (some tk) k (es ++ xs)) v' := by
  obtain ⟨hu, hs, hk0, i, zv, hi, hz, hsize, hbytes, hzs⟩ := appInfo_ok hai
  obtain ⟨news, hnl, hnc, hlen, hone, hfirst⟩ := src_ok (P := P) r hxv hk0 hsrc
  cases hv with
  | base h => cases h
  | tok hT h0 hTk hle hcur =>
    rename_i T
    have htail := r.tail tk T hT
    rw [htk] at htail
    simp only [Option.some.injEq] at htail
    have hcur' := hcur htail
    have htlt : tk < c.tk.length := lt_of_get hT
    -- the old cells
    have holds : ∃ olds : List Value, olds.length = es.length * k ∧ Cells c.im k es olds ∧ ∀ w', (∀ b o, w'.cell? ⟨b, o, none⟩ = w.cell? ⟨b, o, none⟩) → (Builtin.firstCells k es.length v).run P w' = .ok olds.toArray w' := by
      obtain ⟨olds, h1, h2, _, _, h5⟩ := src_ok (P := P) r (x := .sl none k es) (v := v) (xs := es) (.base h0) hk0 (by simp [ASrc])
      exact ⟨olds, h1, h2, h5⟩
    obtain ⟨olds, hol, hoc, hof⟩ := holds
    by_cases hm0 : xs.length = 0
    · -- nothing is appended
      have hxs : xs = [] := List.eq_nil_of_length_eq_zero hm0
      subst hxs
      have hnews : news = [] := List.eq_nil_of_length_eq_zero (by simpa using hnl)
      subst hnews
      have hset : st.tk.set tk es.length = st.tk := by
        apply List.ext_getElem?
        intro j
        rw [List.getElem?_set]
        by_cases hj : tk = j
        · subst hj; rw [if_pos rfl, htk]; simp [lt_of_get htk]
        · rw [if_neg hj]
      simp only [List.length_nil, Nat.add_zero, List.append_nil, hset]
      have hvs : ∃ base cap, v = .slice base es.length cap ∧ es.length ≤ cap := by
        obtain ⟨a', cap, hv, hc, _⟩ := h0.inv_sl
        exact ⟨a', cap, hv, hc⟩
      obtain ⟨base, cap, rfl, hcap⟩ := hvs
      have hrun := run_append_place (P := P) (w := w) (ty := ty) (base := base) (n := es.length) (cap := cap) hu hs hx (hlen w) (hfirst w (fun _ _ => rfl)) hcap
      refine ⟨.slice base es.length cap, w, c, ?_, r, .tok hT h0 hTk hle hcur⟩
      rw [hrun]
      cases base <;> simp [storeCells]
    · have hmpos : 0 < xs.length := Nat.pos_of_ne_zero hm0
      have hcells := hoc.append hol hnc
      have hal : (olds ++ news).length = (es ++ xs).length * k := by simp [hol, hnl, Nat.add_mul]
      -- behind growing: a new block
      have grow : ∀ (base : Option Addr) (cap : Nat), v = .slice base es.length cap → cap < es.length + xs.length →
          ∃ v' w' c', (Builtin.append_ #[t, tx] ty #[v, xv]).run P w = .ok v' w' ∧ Rel w0 im0 c' { st with tk := st.tk.set tk (es.length + xs.length) } a w' ∧ VR c' (.sl (some tk) k (es ++ xs)) v' := by
        rintro base cap rfl hfit
        have hrun := run_append_new (P := P) (w := w) (ty := ty) (base := base) (n := es.length) (cap := cap) (m := xs.length) hu hi hz hsize hx (hlen w) (hof w.drew (fun _ _ => rfl)) (hfirst w.drew (fun _ _ => rfl)) hfit (by omega) (by rw [hbytes]; exact hbt)
        let N := es.length + xs.length
        let C := grownCap w N cap e
        have hC : N ≤ C := grownCap_ge w N cap e
        let blk : Array Value := olds.toArray ++ news.toArray ++ Builtin.zeroCells zv.cells (C - N)
        let w' := w.drew.alloc (.cells blk e)
        have hblk : w'.heap[w.heap.size]? = some (.cells blk e (0, 0)) := heap_new w.drew _
        have hbsz : blk.size = C * k := by
          simp only [blk, Array.size_append, List.size_toArray, hol, hnl, zeroCells_size, hzs]
          rw [← Nat.add_mul, ← Nat.add_mul]
          congr 1
          omega
        let im' : Im := fun b o => if b = w.heap.size then (if o < N * k then blk.toList[o]? else none) else c.im b o
        have him : c.im.le im' := fun b o x h => by
          have := r.im_lt h
          show (if b = w.heap.size then _ else c.im b o) = some x
          rw [if_neg (by omega)]; exact h
        have hb' : Below w.heap.size w w' := below_drew_alloc w _
        obtain ⟨h1, h2⟩ := r.setTok (T' := ⟨some w.heap.size, N, C, k⟩) (w' := w') (im' := im') hT hTk.symm (by show T.tail < N; omega) (fun b hb _ => hb'.block b hb) (r.below.trans (hb'.mono r.below.size)) him
          (fun b o x h => by
            by_cases hbg : b = w.heap.size
            · subst hbg
              simp only [im', if_true] at h
              split at h
              · simp only [World.cell?, hblk, Option.isSome_none, Bool.false_eq_true, if_false]
                simpa using h
              · simp at h
            · simp only [im', if_neg hbg] at h
              rw [cell_of_block (hb'.block b (r.im_lt h))]
              exact r.imok b o x h)
          (fun b o hlt _ => by show (if b = w.heap.size then _ else _) = _; rw [if_neg (by omega)])
          (fun b hb => by
            simp only [Option.some.injEq] at hb
            subst hb
            exact ⟨.inr (Nat.le_refl _), r.below.size, hC, fun o ho => by show (if w.heap.size = w.heap.size then _ else _) = none; rw [if_pos rfl, if_neg (Nat.not_lt.2 ho)], blk, e, 0, 0, hblk, fun o _ hh => by omega, by rw [hbsz]; exact Nat.le_refl _⟩)
        refine ⟨_, _, _, hrun, h2, ?_⟩
        have hVR : VR0 im' (.sl none k (es ++ xs)) (.slice (some ⟨w.heap.size, 0, none⟩) (es ++ xs).length C) :=
          VR0.of_cells (hcells.mono him) (by simp; exact hC) (fun p u hp hu' => by
            show (if w.heap.size = w.heap.size then _ else _) = _
            have hp' : p < N * k := by simpa [N] using hp
            rw [if_pos rfl, Nat.zero_add, if_pos hp']
            simp only [blk, Array.toList_append]
            rw [List.getElem?_append_left (by simp; have := lt_of_get hu'; simpa using this)]
            simpa using hu')
        have hfin : VR ⟨c.β, c.tk.set tk ⟨some w.heap.size, N, C, k⟩, im'⟩ (.sl (some tk) k (es ++ xs)) (.slice (some ⟨w.heap.size, 0, none⟩) (es ++ xs).length C) :=
          .tok (T := ⟨some w.heap.size, N, C, k⟩) (by simp [htlt]) hVR rfl (by simp [N]) (fun _ => .inr ⟨_, rfl, rfl⟩)
        simpa [N, C] using hfin
      rcases hcur' with ⟨hn0, hv⟩ | ⟨b, hTb, hv⟩
      · refine grow none 0 ?_ (by omega)
        rw [hv, hn0]
      · by_cases hroom : es.length + xs.length ≤ T.cap
        · -- in place
          have hto := r.tok tk T b hT hTb
          obtain ⟨cs, ty', lo, hi', hblk, hfro, hsz⟩ := hto.blk
          subst hTk
          have hmul : (es.length + xs.length) * T.k ≤ T.cap * T.k := Nat.mul_le_mul_right _ hroom
          have hcs : cs = cs.toList.toArray := by simp
          have hfit2 : es.length * T.k + 0 + news.length ≤ cs.toList.length := by
            rw [hnl]; simp only [Nat.add_mul] at hmul; simp; omega
          have hst := run_storePut (P := P) b (es.length * T.k) ty' lo hi' news 0 cs.toList w (by rw [← hcs]; exact hblk) (by simpa using hfro) hfit2 hone
          rw [Nat.add_zero] at hst
          subst hv
          have hrun := run_append_place (P := P) (w := w) (ty := ty) (base := some ⟨b, 0, none⟩) (n := es.length) (cap := T.cap) hu hs hx (hlen w) (hfirst w (fun _ _ => rfl)) hroom
          simp only [add_none, Nat.zero_add, hst, Result.andThen_ok] at hrun
          let cs' := putV cs.toList (es.length * T.k) news
          let w' := w.setRow b cs'.toArray
          have hblk' : w'.heap[b]? = some (.cells cs'.toArray ty' (lo, hi')) := setRow_heap w b cs _ ty' (lo, hi') hblk
          let N := es.length + xs.length
          let im' : Im := fun b' o => if b' = b ∧ es.length * T.k ≤ o ∧ o < N * T.k then cs'[o]? else c.im b' o
          have hoff : ∀ o x, c.im b o = some x → o < es.length * T.k := fun o x h => by
            rcases Nat.lt_or_ge o (es.length * T.k) with h' | h'
            · exact h'
            · rw [hto.im o (by rw [← htail]; exact h')] at h; simp at h
          have him : c.im.le im' := fun b' o x h => by
            show (if b' = b ∧ _ then _ else c.im b' o) = some x
            rw [if_neg]
            · exact h
            · rintro ⟨rfl, h1, _⟩
              have := hoff o x h; omega
          have hb' : Below w0.heap.size w0 w' := below_setRow r.below hto.new _
          have hbeff := r.tok_lt hT hTb
          obtain ⟨h1, h2⟩ := r.setTok (T' := ⟨some b, N, T.cap, T.k⟩) (w' := w') (im' := im') hT rfl (by show T.tail < N; omega)
            (fun b' hb2 hne => setRow_other w b b' _ (fun e => hne (by rw [hTb, e]))) hb' him
            (fun b' o x h => by
              by_cases hc : b' = b ∧ es.length * T.k ≤ o ∧ o < N * T.k
              · simp only [im', if_pos hc] at h
                obtain ⟨rfl, _⟩ := hc
                simp only [World.cell?, hblk', Option.isSome_none, Bool.false_eq_true, if_false]
                simpa using h
              · simp only [im', if_neg hc] at h
                by_cases hbb : b' = b
                · subst hbb
                  have hlt := hoff o x h
                  have := r.imok _ _ _ h
                  simp only [World.cell?, hblk, Option.isSome_none, Bool.false_eq_true, if_false] at this
                  simp only [World.cell?, hblk', Option.isSome_none, Bool.false_eq_true, if_false, List.getElem?_toArray, cs']
                  rw [putV_get _ _ _ _ (by omega), if_neg (by omega)]
                  simpa using this
                · rw [cell_of_block (setRow_other w b b' _ hbb)]
                  exact r.imok _ _ _ h)
            (fun b' o hlt hne => by
              show (if b' = b ∧ _ then _ else _) = _
              rw [if_neg (fun h => hne (by rw [hTb, h.1]))])
            (fun b' hbb => by
              simp only [Option.some.injEq] at hbb
              subst hbb
              refine ⟨.inl hTb, hto.new, hroom, fun o ho => ?_, cs'.toArray, ty', lo, hi', hblk', fun o ho => hfro o (by simpa [cs', putV_length] using ho), by simp only [List.size_toArray, cs', putV_length]; simpa using hsz⟩
              show (if b = b ∧ _ then _ else c.im b o) = none
              rw [if_neg (fun h => by have := h.2.2; simp only [N] at *; omega)]
              refine hto.im o ?_
              rw [← htail]
              have ho' : (es.length + xs.length) * T.k ≤ o := ho
              rw [Nat.add_mul] at ho'
              omega)
          refine ⟨_, _, _, hrun, h2, ?_⟩
          have hVR : VR0 im' (.sl none T.k (es ++ xs)) (.slice (some ⟨b, 0, none⟩) (es ++ xs).length T.cap) := by
            -- the old cells where they were, the new ones behind
            have hold : ∀ (p : Nat) (u : Value), p < es.length * T.k → olds[p]? = some u → ∃ u', c.im b p = some u' := fun p u hp hu' => by
              obtain ⟨a', cap', hva, hcap', hes⟩ := h0.inv_sl
              simp only [Value.slice.injEq] at hva
              obtain ⟨rfl, _, rfl⟩ := hva
              rcases hes with rfl | ⟨b2, o2, hbo, hkk, cv, hm, h11, hv⟩
              · simp at hp
              · simp only [Option.some.injEq, Addr.mk.injEq] at hbo
                obtain ⟨rfl, rfl, _⟩ := hbo
                have hdiv : p / T.k < es.length := Nat.div_lt_of_lt_mul (by rw [Nat.mul_comm]; exact hp)
                have hl2 := hkk (p / T.k) es[p / T.k] (by simp [hdiv])
                have h3 : p % T.k < es[p / T.k].leaves.length := by rw [hl2]; exact Nat.mod_lt _ hk0
                have := hm (p / T.k) es[p / T.k] (p % T.k) es[p / T.k].leaves[p % T.k] (by simp [hdiv]) (by simp [h3])
                rw [Nat.add_assoc, div_mod_eq, Nat.zero_add] at this
                exact ⟨_, this⟩
            have hcs'get : ∀ p, p < es.length * T.k → cs'[p]? = cs.toList[p]? := fun p hp => by
              simp only [cs']; rw [putV_get _ _ _ _ (by omega), if_neg (by omega)]
            have hc2 : Cells im' T.k (es ++ xs) cs' := by
              have hA : Cells im' T.k es (cs'.take (es.length * T.k)) := by
                obtain ⟨a', cap', hva, hcap', hes⟩ := h0.inv_sl
                simp only [Value.slice.injEq] at hva
                obtain ⟨rfl, _, rfl⟩ := hva
                rcases hes with rfl | ⟨b2, o2, hbo, hkk, cv, hm, h11, hv⟩
                · exact ⟨by simp, by simp⟩
                · simp only [Option.some.injEq, Addr.mk.injEq] at hbo
                  obtain ⟨rfl, rfl, _⟩ := hbo
                  refine ⟨hkk, fun i e j y he hy => ?_⟩
                  have hj : j < T.k := by rw [← hkk i e he]; exact lt_of_get hy
                  have hlt := idx_lt (lt_of_get he) hj
                  have h5 := r.imok _ _ _ (hm i e j y he hy)
                  simp only [World.cell?, hblk, Option.isSome_none, Bool.false_eq_true, if_false, Nat.zero_add] at h5
                  refine ⟨cv i j, ?_, (hv i e j y he hy).mono him, h11 i e j y he hy⟩
                  rw [List.getElem?_take, if_pos hlt, hcs'get _ hlt]
                  simpa using h5
              have hB : Cells im' T.k xs (cs'.drop (es.length * T.k)) := by
                refine ⟨hnc.1, fun i e j y he hy => ?_⟩
                obtain ⟨u, h5, h6, h7⟩ := hnc.2 i e j y he hy
                refine ⟨u, ?_, h6.mono him, h7⟩
                have := lt_of_get h5
                rw [List.getElem?_drop]
                simp only [cs']
                rw [putV_get _ _ _ _ (by omega), if_pos (by omega)]
                rw [show es.length * T.k + (i * T.k + j) - es.length * T.k = i * T.k + j by omega]
                exact h5
              have := hA.append (by simp only [List.length_take, cs', putV_length]; omega) hB
              rwa [List.take_append_drop] at this
            refine VR0.of_cells hc2 (by simp; exact hroom) (fun p u hp hu' => ?_)
            rw [Nat.zero_add]
            by_cases hp2 : es.length * T.k ≤ p
            · show (if b = b ∧ _ then _ else _) = _
              rw [if_pos ⟨rfl, hp2, by simpa [N] using hp⟩]; exact hu'
            · have hp3 : p < es.length * T.k := by omega
              have hop : p < olds.length := by omega
              obtain ⟨u', hu2⟩ := hold p olds[p] hp3 (by simp [hop])
              rw [him _ _ _ hu2]
              have := r.imok _ _ _ hu2
              simp only [World.cell?, hblk, Option.isSome_none, Bool.false_eq_true, if_false] at this
              rw [hcs'get p hp3] at hu'
              simp only [← Array.getElem?_toList] at this
              rw [this] at hu'
              exact hu'
          have hfin : VR ⟨c.β, c.tk.set tk ⟨some b, N, T.cap, T.k⟩, im'⟩ (.sl (some tk) T.k (es ++ xs)) (.slice (some ⟨b, 0, none⟩) (es ++ xs).length T.cap) :=
            .tok (T := ⟨some b, N, T.cap, T.k⟩) (by simp [htlt]) hVR rfl (by simp [N]) (fun _ => .inr ⟨_, rfl, rfl⟩)
          simpa [N] using hfin
        · exact grow (some ⟨b, 0, none⟩) T.cap hv (by omega)

theorem append_ok (r : Rel w0 im0 c st a w) {t tx ty : TypeId} {s x : AV} {sv xv : Value} (hsv : VR c s sv) (hxv : VR c x xv) {K : St → AV → Prop} (hk : AAppend P t tx s x st K) :
    ∃ v y w' c' st', (Builtin.append_ #[t, tx] ty #[sv, xv]).run P w = .ok v w' ∧ Rel w0 im0 c' st' a w' ∧ VR c' y v ∧ K st' y := by
  obtain ⟨hx, e, k, n, xs, hai, hsrc, hk⟩ := hk
  split at hk
  · obtain ⟨rfl, h1, h2, h3, hk⟩ := hk
    obtain ⟨v', w', c', hr, hR, hV⟩ := append_tok (P := P) (ty := ty) r hx hai hxv hsrc hsv h1 h2 h3
    exact ⟨v', _, w', c', _, hr, hR, hV, hk⟩
  · obtain ⟨h2, h3, hk⟩ := hk
    cases hsv.inv_nilS
    obtain ⟨c1, hle, r1, hv1⟩ := r.nilTok k
    obtain ⟨v', w', c', hr, hR, hV⟩ := append_tok (P := P) (ty := ty) r1 hx hai (hxv.mono hle) hsrc hv1 (by simp) (by simpa using h2) (by simpa using h3)
    refine ⟨v', _, w', c', _, hr, ?_, ?_, hk⟩
    · have : (st.tk ++ [0]).set st.tk.length ((([] : List AV)).length + xs.length) = st.tk ++ [xs.length] := by simp
      rw [← this]; exact hR
    · simpa using hV
  · exact hk.elim

/-- A string's bytes. -/
def ABytes (P : Program) (s d : TypeId) (x : AV) (st : St) (K : St → AV → Prop) : Prop :=
  P.underlying s = some .string ∧ (∃ e, P.underlying d = some (.slice e) ∧ P.underlying e = some (.int .u8)) ∧
  match x with
  | .v (.string z) => K { st with tk := st.tk ++ [z.data.toList.length] } (.sl (some st.tk.length) 1 (z.data.toList.map u8))
  | _ => False

theorem bytes_ok (r : Rel w0 im0 c st a w) {s d : TypeId} {x : AV} {v : Value} (h : VR c x v) {K : St → AV → Prop} (hk : ABytes P s d x st K) :
    ∃ u y w' c' st', (convert s d v).run P w = .ok u w' ∧ Rel w0 im0 c' st' a w' ∧ VR c' y u ∧ K st' y := by
  obtain ⟨hs, ⟨e, hd, he⟩, hk⟩ := hk
  split at hk
  case h_2 => exact hk.elim
  rename_i z
  cases h.inv_v
  let C := grownCap w z.size 0 e
  have hC : z.size ≤ C := grownCap_ge w z.size 0 e
  let blk : Array Value := z.data.map (fun b => Value.int .u8 (b.toNat : Int)) ++ Array.replicate (C - z.size) (.int .u8 0)
  have hbsz : blk.size = C := by
    simp only [blk, Array.size_append, Array.size_map, Array.size_replicate]
    have : z.data.size = z.size := rfl
    omega
  let w' := w.drew.alloc (.cells blk e (C, C + 1))
  have hblk : w'.heap[w.heap.size]? = some (.cells blk e (C, C + 1)) := heap_new w.drew _
  have hrun : (convert s d (.string z)).run P w = .ok (.slice (some ⟨w.heap.size, 0, none⟩) z.size C) w' := by
    have := run_bytes_of_string w s d e z hs hd he
    have hb : bytesRow z (grownCap w z.size 0 e) = blk := rfl
    rw [hb, hbsz] at this
    exact this
  have hzl : z.data.toList.length = z.size := rfl
  obtain ⟨c', h1, h2, h3⟩ := r.newTok (w' := w') (below_drew_alloc w _) (g := w.heap.size) (k := 1) (cap := C) (es := z.data.toList.map u8) (Nat.le_refl _) hblk
    (fun o ho hh => by omega) (by omega) (by simp; exact hC) ⟨fun i y hy => by
      rw [List.getElem?_map] at hy
      cases hb : z.data.toList[i]? with
      | none => simp [hb] at hy
      | some b => simp only [hb, Option.map_some, Option.some.injEq] at hy; subst hy; rfl, fun i y j q hy hq => by
      rw [List.getElem?_map] at hy
      cases hb : z.data.toList[i]? with
      | none => simp [hb] at hy
      | some b =>
        simp only [hb, Option.map_some, Option.some.injEq] at hy; subst hy
        cases j with
        | succ j => simp [u8, AV.leaves] at hq
        | zero =>
          simp only [u8, AV.leaves, List.getElem?_cons_zero, Option.some.injEq] at hq; subst hq
          refine ⟨.int .u8 (b.toNat : Int), ?_, .v _, rfl⟩
          simp only [blk, Array.toList_append, Array.toList_map, Nat.mul_one, Nat.add_zero]
          rw [List.getElem?_append_left (by simp; have := lt_of_get hb; simpa using this)]
          simp only [List.getElem?_map, hb, Option.map_some]⟩
  simp only [List.length_map] at h2 h3
  exact ⟨_, _, _, c', _, hrun, h2, h3, hk⟩
end
end Go.Abs
