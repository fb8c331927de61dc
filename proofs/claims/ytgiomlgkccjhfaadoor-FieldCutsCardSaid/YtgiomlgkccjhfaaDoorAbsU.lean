/- Lists of elements told by a function; contracts that a library's contract gives. -/
import Derived.Test.YtgiomlgkccjhfaaDoorAbsT
set_option linter.unusedVariables false
set_option linter.unusedSimpArgs false
namespace Go.Abs
open Go Go.RowKit

theorem map_take' {α β : Type} {f : α → β} {l : List α} {n : Nat} : (l.map f).take n = (l.take n).map f := List.map_take.symm
theorem map_drop' {α β : Type} {f : α → β} {l : List α} {n : Nat} : (l.map f).drop n = (l.drop n).map f := List.map_drop.symm
theorem map_app' {α β : Type} {f : α → β} {l m : List α} : l.map f ++ m.map f = (l ++ m).map f := List.map_append.symm
theorem map_len {α β : Type} {f : α → β} {l : List α} : (l.map f).length = l.length := List.length_map f
theorem map_get {α β : Type} {f : α → β} {l : List α} {i : Nat} : (l.map f)[i]? = (l[i]?).map f := List.getElem?_map
theorem u8_at (b : UInt8) : u8 b = .v (.int .u8 b.toNat) := rfl
theorem app_lit {l : List UInt8} {n : Int} (h0 : 0 ≤ n) (h1 : n < 256) : l.map u8 ++ [.v (.int .u8 n)] = (l ++ [UInt8.ofNat n.toNat]).map u8 := by
  rw [List.map_append]
  congr 1
  have : ((UInt8.ofNat n.toNat).toNat : Int) = n := by simp; omega
  simp only [List.map_cons, List.map_nil, u8_at, this]
theorem app_u8 {l : List UInt8} {b : UInt8} : l.map u8 ++ [.v (.int .u8 b.toNat)] = (l ++ [b]).map u8 := by
  rw [List.map_append]; rfl
theorem lit_u8 {n : Int} (h0 : 0 ≤ n) (h1 : n < 256) : [AV.v (.int .u8 n)] = [UInt8.ofNat n.toNat].map u8 := by
  have := app_lit (l := []) h0 h1
  simpa using this
theorem ba_eq {A B : List UInt8} : ((⟨A.toArray⟩ : ByteArray) = ⟨B.toArray⟩) = (A = B) := by
  simp only [ByteArray.mk.injEq, eq_iff_iff]
  exact ⟨fun h => by simpa using h, fun h => by rw [h]⟩
theorem ba_list {A : List UInt8} : (⟨A.toArray⟩ : ByteArray).data.toList = A := rfl
theorem AGet.nth {α β : Type} {l : List α} {i : Nat} {f : α → β} {p : β → Prop} (h : i < l.length) (hp : ∀ b, l[i]? = Option.some b → p (f b)) : AGet ((l[i]?).map f) p := by
  obtain ⟨b, hb⟩ : ∃ b, l[i]? = Option.some b := ⟨_, List.getElem?_eq_getElem h⟩
  exact ⟨f b, by rw [hb]; rfl, hp b hb⟩
theorem AGet.nth1 {β : Type} {l : List β} {i : Nat} {p : β → Prop} (h : i < l.length) (hp : ∀ b, l[i]? = Option.some b → p b) : AGet (l[i]?) p := by
  obtain ⟨b, hb⟩ : ∃ b, l[i]? = Option.some b := ⟨_, List.getElem?_eq_getElem h⟩
  exact ⟨b, hb, hp b hb⟩
theorem arr_get {A : List UInt8} {i : Nat} : (A.toArray)[i]? = A[i]? := by simp
theorem toNat_cast {n : Nat} : ((n : Int)).toNat = n := rfl
theorem nn_cast {n : Nat} : (0 ≤ (n : Int)) = True := by simp
section
variable {E : Env} {ops : Array Oper} {d : Option Tmp} {l : List Oper} {st : St} {K : St → Prop}
@[go_sem] theorem AV1.get {α : Type} {o : Option α} {F : α → (AV → Prop) → Prop} : AV1 (fun k => AGet o fun y => F y k) E ops d l st K = AGet o (fun y => AV1 (F y) E ops d l st K) := rfl
@[go_sem] theorem AV2.get {α : Type} {o : Option α} {F : α → (St → AV → Prop) → Prop} : AV2 (fun k => AGet o fun y => F y k) E ops d l K = AGet o (fun y => AV2 (F y) E ops d l K) := rfl
@[go_sem] theorem AV3.get {α : Type} {o : Option α} {F : α → (St → Prop) → Prop} : AV3 (fun k => AGet o fun y => F y k) E ops d l K = AGet o (fun y => AV3 (F y) E ops d l K) := rfl
end
attribute [go_sem] map_take' map_drop' map_app' map_len map_get u8_at app_lit app_u8 ba_eq ba_list arr_get toNat_cast nn_cast List.length_append List.length_map Option.map_some Option.map_none

section
variable {E : Env} {f : FuncId} {R : AV → List Nat → Prop}

theorem pw0_vals {im : Im} : ∀ {xs vs : List Value}, Pw0 im (xs.map .v) vs → vs = xs
  | [], vs, h => List.eq_nil_of_length_eq_zero (by simpa using h.1)
  | x :: xs, vs, h => by
    cases vs with
    | nil => have := h.1; simp at this
    | cons v vs =>
      have h0 := h.2 0 (.v x) v rfl rfl
      cases h0
      have := pw0_vals (im := im) (xs := xs) (vs := vs) ⟨by have := h.1; simpa using this, fun i y u h1 h2 => h.2 (i + 1) y u (by simpa using h1) (by simpa using h2)⟩
      rw [this]
/-- A function of values that leaves the world as it was. -/
theorem ACalls.of_pure {xs : List Value} {S : Value → Prop} (h : ∀ w, E.ok w → Calls E.P f xs.toArray w fun e w' => (∃ v, e = .returned v ∧ S v) ∧ w' = w) (hR : ∀ v, S v → ∃ r, (∀ im, VR0 im r v) ∧ R r []) : ACalls E f (xs.map .v) R := by
  intro w im vs hok hg him hpw
  rw [pw0_vals hpw]
  refine (h w hok).mono ?_
  rintro e w' ⟨⟨v, rfl, hs⟩, rfl⟩
  obtain ⟨r, h1, h2⟩ := hR v hs
  exact ⟨v, r, [], im, rfl, Below.refl _ _, .refl _, fun _ _ _ => rfl, him, ⟨by simp, by simp⟩, .base (h1 im), h2⟩
/-- A function of values that leaves old memory as it was. -/
theorem ACalls.of_below {xs : List Value} {S : Value → Prop} (h : ∀ w, E.ok w → Calls E.P f xs.toArray w fun e w' => (∃ v, e = .returned v ∧ S v) ∧ Below w.heap.size w w') (hR : ∀ v, S v → ∃ r, (∀ im, VR0 im r v) ∧ R r []) : ACalls E f (xs.map .v) R := by
  intro w im vs hok hg him hpw
  rw [pw0_vals hpw]
  refine (h w hok).mono ?_
  rintro e w' ⟨⟨v, rfl, hs⟩, hb⟩
  obtain ⟨r, h1, h2⟩ := hR v hs
  refine ⟨v, r, [], im, rfl, hb, .refl _, fun _ _ _ => rfl, fun b o x hx => ?_, ⟨by simp, by simp⟩, .base (h1 im), h2⟩
  have := him b o x hx
  rw [← this]
  exact cell_of_block (hb.block b (World.block_lt_of_cell? w ⟨b, o, none⟩ this)) o
end
end Go.Abs
namespace Go.Abs
open Go Go.RowKit
/-- A region at whose end no more is known than this. -/
theorem AWP.regionP {E : Env} {Q : Exit → St → Prop} {st : St} {id : Nat} {l : List Oper} {ι : Type} (S : ι → St) (P : ι → Prop)
    (h1 : AList E l.toArray l st fun s => ∃ i, P i ∧ s.Wk (S i)) (h2 : ∀ i, P i → Q .normal (S i)) : AWP E (.region id l.toArray false) Q st := fun w0 im0 cx a w h0 hG r => by
  refine wp_region_lit (alist_sound h0 hG (w0 := w0) (im0 := im0) (K := fun s => ∃ i, P i ∧ s.Wk (S i)) (fun a' w' hh => ?_) l r h1)
  obtain ⟨c2, s2, r2, i, hp, hw⟩ := hh
  obtain ⟨d, r3⟩ := r2.weaken hw
  exact ⟨d, _, r3, h2 i hp⟩
/-- A sequence between whose parts no more is known than this. -/
theorem AWP.seqP {E : Env} {Q : Exit → St → Prop} {st : St} {x y : Code} {ι : Type} (S : ι → St) (P : ι → Prop)
    (h1 : AWP E x (AThen (fun s => ∃ i, P i ∧ s.Wk (S i)) Q) st) (h2 : ∀ i, P i → AWP E y Q (S i)) : AWP E (.seq x y) Q st :=
  AWP.seq (AWP.mono h1 fun e s hs => by
    cases e <;> first | exact hs | skip
    obtain ⟨i, hp, hw⟩ := hs
    exact AWP.weaken hw (h2 i hp))
end Go.Abs
namespace Go.Abs
open Go Go.RowKit
theorem AWP.regionJ {E : Env} {Q : Exit → St → Prop} {st : St} {id : Nat} {l : List Oper} {ι : Type} (hv : List Nat) (ps : ι → List (Nat × AV)) (P : ι → Prop)
    (h1 : AList E l.toArray l st fun s => ∃ i, P i ∧ s.Wk (st.at hv (ps i) st.own st.tk)) (h2 : ∀ i, P i → Q .normal (st.at hv (ps i) st.own st.tk)) : AWP E (.region id l.toArray false) Q st :=
  AWP.regionP (fun i => st.at hv (ps i) st.own st.tk) P h1 h2
theorem AWP.seqJ {E : Env} {Q : Exit → St → Prop} {st : St} {x y : Code} {ι : Type} (hv : List Nat) (ps : ι → List (Nat × AV)) (own : ι → List (Option (List AV))) (tk : ι → List Nat) (P : ι → Prop)
    (h1 : AWP E x (AThen (fun s => ∃ i, P i ∧ s.Wk (st.at hv (ps i) (own i) (tk i))) Q) st) (h2 : ∀ i, P i → AWP E y Q (st.at hv (ps i) (own i) (tk i))) : AWP E (.seq x y) Q st :=
  AWP.seqP (fun i => st.at hv (ps i) (own i) (tk i)) P h1 h2
end Go.Abs
namespace Go.Abs
theorem AGet.have' {α : Type} {o : Option α} {b : α} {p : α → Prop} (h : o = Option.some b) (hp : p b) : AGet o p := ⟨b, h, hp⟩
theorem AGet.haveM {α β : Type} {o : Option α} {b : α} {f : α → β} {p : β → Prop} (h : o = Option.some b) (hp : p (f b)) : AGet (o.map f) p := ⟨f b, by rw [h]; rfl, hp⟩
end Go.Abs
namespace Go.Abs
open Go Go.RowKit
def AAppTo (s : AV) (k n : Nat) (xs : List AV) (st : St) (K : St → AV → Prop) : Prop :=
  match s with
    | .sl (some tk) q es => q = k ∧ st.tk[tk]? = some es.length ∧ es.length + xs.length ≤ 4611686018427387904 ∧ (es.length + xs.length) * n ≤ 140737488355328 ∧
        K { st with tk := st.tk.set tk (es.length + xs.length) } (.sl (some tk) k (es ++ xs))
    | .nilS => xs.length ≤ 4611686018427387904 ∧ xs.length * n ≤ 140737488355328 ∧ K { st with tk := st.tk ++ [xs.length] } (.sl (some st.tk.length) k xs)
    | _ => False
@[go_sem] theorem AAppend_eq {P : Program} {t tx : TypeId} {s x : AV} {st : St} {K : St → AV → Prop} : AAppend P t tx s x st K =
    (srcTy P tx = true ∧ AGet (appInfo P t) fun p => AGet (ASrc x p.2.1) fun xs => AAppTo s p.2.1 p.2.2 xs st K) := by
  simp only [AAppend, AGet, AAppTo, eq_iff_iff]
  constructor
  · rintro ⟨h0, e, k, n, xs, h1, h2, h3⟩; exact ⟨h0, (e, k, n), h1, xs, h2, h3⟩
  · rintro ⟨h0, ⟨e, k, n⟩, h1, xs, h2, h3⟩; exact ⟨h0, e, k, n, xs, h1, h2, h3⟩
attribute [go_sem] AAppTo
end Go.Abs
namespace Go.Abs
open Go Go.RowKit
@[go_sem] theorem AMkSlice_eq {P : Program} {t : TypeId} {len : Nat} {ps : List (Nat × AV)} {st : St} {K : St → AV → Prop} : AMkSlice P t len ps st K =
    (AGet (appInfo P t) fun p => ps.length = len ∧ idxFrom 0 ps = true ∧ len * p.2.1 ≤ 16777216 ∧ AGet (cleanAll p.2.1 ps) fun ys => K { st with tk := st.tk ++ [ys.length] } (.sl (some st.tk.length) p.2.1 ys)) := by
  simp only [AMkSlice, AGet, eq_iff_iff]
  constructor
  · rintro ⟨e, k, n, ys, h1, h2, h3, h4, h5, h6⟩; exact ⟨(e, k, n), h1, h2, h3, h4, ys, h5, h6⟩
  · rintro ⟨⟨e, k, n⟩, h1, h2, h3, h4, ys, h5, h6⟩; exact ⟨e, k, n, ys, h1, h2, h3, h4, h5, h6⟩
end Go.Abs
namespace Go.Abs
open Go Go.RowKit
@[go_sem] theorem ASlice_str {P : Program} {t : TypeId} {s : ByteArray} {lo hi : Option AV} {k : AV → Prop} : ASlice P t (.v (.string s)) lo hi k =
    (P.underlying t = some .string ∧ AGet (bnd lo 0) fun l => AGet (bnd hi s.data.toList.length) fun h => 0 ≤ l ∧ l ≤ h ∧ h ≤ (s.data.toList.length : Int) ∧ k (.v (.string ⟨(cutL lo hi s.data.toList).toArray⟩))) := by
  simp only [ASlice, AGet, eq_iff_iff]
  constructor
  · rintro ⟨h0, l, h, h1, h2, h3⟩; exact ⟨h0, l, h1, h, h2, h3⟩
  · rintro ⟨h0, l, h1, h, h2, h3⟩; exact ⟨h0, l, h, h1, h2, h3⟩
@[go_sem] theorem ASlice_sl {P : Program} {t : TypeId} {t' : Option Nat} {q : Nat} {es : List AV} {lo hi : Option AV} {k : AV → Prop} : ASlice P t (.sl t' q es) lo hi k =
    ((∃ e, P.underlying t = some (.slice e) ∧ tsz P e = some q) ∧ AGet (bnd lo 0) fun l => AGet (bnd hi es.length) fun h => 0 ≤ l ∧ l ≤ h ∧ h ≤ (es.length : Int) ∧ k (.sl (loTok lo t') q (cutL lo hi es))) := by
  simp only [ASlice, AGet, eq_iff_iff]
  constructor
  · rintro ⟨h0, l, h, h1, h2, h3⟩; exact ⟨h0, l, h1, h, h2, h3⟩
  · rintro ⟨h0, l, h1, h, h2, h3⟩; exact ⟨h0, l, h, h1, h2, h3⟩
@[go_sem] theorem ASlice_nil {P : Program} {t : TypeId} {lo hi : Option AV} {k : AV → Prop} : ASlice P t .nilS lo hi k =
    ((∃ e n, P.underlying t = some (.slice e) ∧ tsz P e = some n) ∧ bnd lo 0 = some 0 ∧ bnd hi 0 = some 0 ∧ k .nilS) := rfl
@[go_sem] theorem ASlice_mu {P : Program} {t : TypeId} {id q off len : Nat} {lo hi : Option AV} {k : AV → Prop} : ASlice P t (.mu id q off len) lo hi k =
    ((∃ e n, P.underlying t = some (.slice e) ∧ tsz P e = some n) ∧ lo = none ∧ AGet (bnd hi len) fun h => 0 ≤ h ∧ h ≤ (len : Int) ∧ k (.mu id q off h.toNat)) := rfl
theorem ex_slice {e : TypeId} {p : TypeId → Prop} : (∃ x, some (TypeDesc.slice e) = some (TypeDesc.slice x) ∧ p x) = p e := by simp
theorem ex_slice2 {e : TypeId} {p : TypeId → Nat → Prop} : (∃ x n, some (TypeDesc.slice e) = some (TypeDesc.slice x) ∧ p x n) = ∃ n, p e n := by simp
theorem pair_eta {α β : Type} {p : α × β} : (p.1, p.2) = p := rfl
attribute [go_sem] pair_eta ex_slice ex_slice2
end Go.Abs
namespace Go.Abs
open Go Go.RowKit
section
variable {P : Program} {t : TypeId} {k : Bool → Prop}
@[go_sem] theorem AEq_bool {a b : Bool} : AEq P t (.v (.bool a)) (.v (.bool b)) k = (P.underlying t = some .bool ∧ k (decide (a = b))) := rfl
@[go_sem] theorem AEq_nn : AEq P t .nilS .nilS k = ((∃ e, P.underlying t = some (.slice e)) ∧ k true) := rfl
@[go_sem] theorem AEq_sn {x : Option Nat} {y : Nat} {es : List AV} : AEq P t (.sl x y es) .nilS k = ((∃ e, P.underlying t = some (.slice e)) ∧ ∀ b, (es ≠ [] → b = false) → k b) := rfl
@[go_sem] theorem AEq_ns {x : Option Nat} {y : Nat} {es : List AV} : AEq P t .nilS (.sl x y es) k = ((∃ e, P.underlying t = some (.slice e)) ∧ ∀ b, (es ≠ [] → b = false) → k b) := rfl
@[go_sem] theorem AEq_mn {i x y z : Nat} : AEq P t (.mu i x y z) .nilS k = ((∃ e, P.underlying t = some (.slice e)) ∧ k false) := rfl
@[go_sem] theorem AEq_ii : AEq P t (.v .nilIface) (.v .nilIface) k = ((∃ ms, P.underlying t = some (.interface ms)) ∧ k true) := rfl
@[go_sem] theorem AEq_fi {x : TypeId} {y : Value} : AEq P t (.v (.iface x y)) (.v .nilIface) k = ((∃ ms, P.underlying t = some (.interface ms)) ∧ k false) := rfl
@[go_sem] theorem AEq_agg {xs ys : List AV} : AEq P t (.agg xs) (.agg ys) k = (AGet (flatKinds P t) fun ks => AGet (aggEq ks xs ys) k) := by
  simp only [AEq, AGet, eq_iff_iff]
  constructor
  · rintro ⟨ks, b, h1, h2, h3⟩; exact ⟨ks, h1, b, h2, h3⟩
  · rintro ⟨ks, h1, b, h2, h3⟩; exact ⟨ks, b, h1, h2, h3⟩
end
end Go.Abs
