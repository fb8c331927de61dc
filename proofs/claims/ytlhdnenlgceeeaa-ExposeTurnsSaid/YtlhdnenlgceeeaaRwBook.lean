/- The reading of books, of orders, of strings. -/
import Derived.Test.YtlhdnenlgceeeaaRwBase
namespace Go.Proofs.Ytlhdnenlgceeeaa
open Go.ChangeShapes Go.WideShapes Go.ChangeAt Go.RowKit Go.Joins Go.Abs Go.Bk
set_option linter.unusedVariables false
set_option linter.unusedSimpArgs false
theorem VR0.agg_map {im : Im} {cs cs' : List AV} {v : Value} (hl : cs.length = cs'.length) (h : ∀ (i : Nat) (c c' : AV) (u : Value), cs[i]? = some c → cs'[i]? = some c' → VR0 im c u → VR0 im c' u) (hv : VR0 im (.agg cs) v) : VR0 im (.agg cs') v := by
  cases hv with
  | agg _ vs hn hh =>
    refine .agg cs' vs (by rw [hn, hl]) fun i c u h1 h2 => ?_
    have hi : i < cs.length := by rw [hl]; exact (List.getElem?_eq_some_iff.1 h1).1
    exact h i cs[i] c u (by simp) h1 (hh i cs[i] u (by simp) h2)
section
variable {H : Type} {enc : TypeId × Value → H}
variable {w : World} {r : Reach} {b0 base : Nat} {spare : Nat → Bool} {held : Bool} {v : Value} {d : DataW H} {ps : List MemPlace}
theorem c40 : Try.prog.cellsOf 40 = 8 := by kernel_rfl
theorem c38 : Try.prog.cellsOf 38 = 9 := by kernel_rfl
theorem c9 : Try.prog.cellsOf 9 = 1 := by kernel_rfl
theorem c32 : Try.prog.cellsOf 32 = 5 := by kernel_rfl
set_option maxRecDepth 100000 in
theorem arg_str (hv : Value.okWide Try.prog w r b0 9 v) (hd : DataW.Trod enc Try.prog w base spare held 9 v d ps) : ∃ s : List UInt8, VR0 (imOf w) (str s) v := by
  obtain ⟨l, _, h⟩ := arg_string Try.underlying9 hv hd
  exact ⟨l, h⟩
theorem sl_of {α : Type} {f : α → AV} {k : Nat} {S : List AV → Prop} {ag : Bool} (hf : ∀ l, S l → ∃ a : α, elOf ag l = f a) {ls : List AV} (h : ls = [.nilS] ∨ ∃ es : List AV, es.length ≤ maxLen ∧ (∀ x ∈ es, ∃ l, S l ∧ x = elOf ag l) ∧ ls = [.sl none k es]) :
    ∃ l : List α, l.length ≤ 9223372036854775807 ∧ ∃ y, ls = [y] ∧ ∀ im v, VR0 im y v → VR0 im (.sl none k (l.map f)) v := by
  rcases h with rfl | ⟨es, h1, h2, rfl⟩
  · exact ⟨[], by simp, _, rfl, fun im v hv => VR0.of_nil hv⟩
  · obtain ⟨L, rfl, _⟩ := list_map (f := f) (Q := fun _ => True) (es := es) (fun y hy => by
      obtain ⟨l, hl, rfl⟩ := h2 y hy
      obtain ⟨a, ha⟩ := hf l hl
      exact ⟨a, trivial, ha⟩)
    exact ⟨L, by unfold maxLen at h1; simpa using h1, _, rfl, fun im v hv => hv⟩
set_option maxRecDepth 100000 in
theorem reads_od : Reads enc Try.prog 40 8 fun l => ∃ a : Od, elOf true l = odV a := fun w base spare held fuel cs x hx => by
  obtain ⟨ls, ⟨_, _, ⟨s1, k1, rfl⟩, ⟨_, _, ⟨s2, k2, rfl⟩, ⟨_, _, ⟨s3, k3, rfl⟩, ⟨_, _, ⟨b4, rfl⟩, ⟨_, _, ⟨n5, k5, rfl⟩, ⟨_, _, ⟨n6, k6, rfl⟩, ⟨_, _, ⟨n7, k7, rfl⟩, ⟨_, _, ⟨b8, rfl⟩, rfl, rfl⟩, rfl⟩, rfl⟩, rfl⟩, rfl⟩, rfl⟩, rfl⟩, rfl⟩, h2, h3⟩ := reads_struct Try.underlying40 rfl c40 (readsF_cons (reads_string Try.underlying9) (by kernel_rfl) rfl (readsF_cons (reads_string Try.underlying9) (by kernel_rfl) rfl (readsF_cons (reads_string Try.underlying9) (by kernel_rfl) rfl (readsF_cons (reads_bool Try.underlying4) (by kernel_rfl) rfl (readsF_cons (reads_int Try.underlying2) (by kernel_rfl) rfl (readsF_cons (reads_int Try.underlying2) (by kernel_rfl) rfl (readsF_cons (reads_int Try.underlying2) (by kernel_rfl) rfl (readsF_cons (reads_bool Try.underlying4) (by kernel_rfl) rfl (readsF_nil 8))))))))) w base spare held fuel cs x hx
  exact ⟨_, ⟨⟨s1, s2, s3, b4, n5, n6, n7, b8⟩, rfl⟩, h2, h3⟩
set_option maxRecDepth 100000 in
theorem reads_dn : Reads enc Try.prog 38 9 fun l => ∃ a : Dn, elOf true l = dnV a := fun w base spare held fuel cs x hx => by
  obtain ⟨ls, ⟨_, _, ⟨s1, k1, rfl⟩, ⟨_, _, ⟨s2, k2, rfl⟩, ⟨_, _, ⟨s3, k3, rfl⟩, ⟨_, _, ⟨s4, k4, rfl⟩, ⟨_, _, ⟨b5, rfl⟩, ⟨_, _, ⟨n6, k6, rfl⟩, ⟨_, _, ⟨n7, k7, rfl⟩, ⟨_, _, ⟨n8, k8, rfl⟩, ⟨_, _, ⟨b9, rfl⟩, rfl, rfl⟩, rfl⟩, rfl⟩, rfl⟩, rfl⟩, rfl⟩, rfl⟩, rfl⟩, rfl⟩, h2, h3⟩ := reads_struct Try.underlying38 rfl c38 (readsF_cons (reads_string Try.underlying9) (by kernel_rfl) rfl (readsF_cons (reads_string Try.underlying9) (by kernel_rfl) rfl (readsF_cons (reads_string Try.underlying9) (by kernel_rfl) rfl (readsF_cons (reads_string Try.underlying9) (by kernel_rfl) rfl (readsF_cons (reads_bool Try.underlying4) (by kernel_rfl) rfl (readsF_cons (reads_int Try.underlying2) (by kernel_rfl) rfl (readsF_cons (reads_int Try.underlying2) (by kernel_rfl) rfl (readsF_cons (reads_int Try.underlying2) (by kernel_rfl) rfl (readsF_cons (reads_bool Try.underlying4) (by kernel_rfl) rfl (readsF_nil 9)))))))))) w base spare held fuel cs x hx
  exact ⟨_, ⟨⟨s1, s2, s3, s4, b5, n6, n7, n8, b9⟩, rfl⟩, h2, h3⟩
set_option maxRecDepth 100000 in
theorem arg_orders (hv : Value.okWide Try.prog w r b0 28 v) (hd : DataW.Trod enc Try.prog w base spare held 28 v d ps) : ∃ l : List Od, l.length ≤ 9223372036854775807 ∧ VR0 (imOf w) (odsV l) v := by
  obtain ⟨x, hx, h⟩ := arg_slice true Try.underlying28 c40 (by decide) (fun h => by cases h) reads_od hv hd
  obtain ⟨l, hl, y, hy, h2⟩ := sl_of (f := odV) (ls := [x]) (k := 8) (ag := true) (fun l h => h) (by
    rcases h with rfl | ⟨es, h1, h2, rfl⟩
    · exact .inl rfl
    · exact .inr ⟨es, h1, h2, rfl⟩)
  cases hy
  exact ⟨l, hl, h2 _ _ hx⟩
set_option maxRecDepth 100000 in
theorem arg_book (hv : Value.okWide Try.prog w r b0 32 v) (hd : DataW.Trod enc Try.prog w base spare held 32 v d ps) : ∃ b : Bk, (b.orders.length ≤ 9223372036854775807 ∧ b.fills.length ≤ 9223372036854775807 ∧ b.ids.length ≤ 9223372036854775807) ∧ VR0 (imOf w) (bkV b) v := by
  obtain ⟨ls, ⟨_, _, h1, ⟨_, _, h2, ⟨_, _, h3, ⟨_, _, ⟨n4, k4, rfl⟩, ⟨_, _, ⟨n5, k5, rfl⟩, rfl, rfl⟩, rfl⟩, rfl⟩, rfl⟩, rfl⟩, hx⟩ := arg_struct Try.underlying32 (reads_struct Try.underlying32 rfl c32
    (readsF_cons (reads_slice true Try.underlying28 c40 (by decide) (fun h => by cases h) reads_od) (by kernel_rfl) rfl (readsF_cons (reads_slice true Try.underlying29 c38 (by decide) (fun h => by cases h) reads_dn) (by kernel_rfl) rfl (readsF_cons (reads_slice false Try.underlying30 c9 (by decide) (fun _ => rfl) (reads_string Try.underlying9)) (by kernel_rfl) rfl (readsF_cons (reads_int Try.underlying2) (by kernel_rfl) rfl (readsF_cons (reads_int Try.underlying3) (by kernel_rfl) rfl (readsF_nil 5))))))) hv hd
  obtain ⟨os, o1, y1, rfl, g1⟩ := sl_of (f := odV) (fun l h => h) h1
  obtain ⟨fs, o2, y2, rfl, g2⟩ := sl_of (f := dnV) (fun l h => h) h2
  obtain ⟨ids, o3, y3, rfl, g3⟩ := sl_of (f := str) (fun l h => by obtain ⟨s, _, rfl⟩ := h; exact ⟨s, rfl⟩) h3
  refine ⟨⟨os, fs, ids, n4, n5⟩, ⟨o1, o2, o3⟩, VR0.agg_map (by rfl) ?_ hx⟩
  intro i c c' u e1 e2 hc
  match i, e1, e2 with
  | 0, e1, e2 => cases e1; cases e2; exact g1 _ _ hc
  | 1, e1, e2 => cases e1; cases e2; exact g2 _ _ hc
  | 2, e1, e2 => cases e1; cases e2; exact g3 _ _ hc
  | 3, e1, e2 => cases e1; cases e2; exact hc
  | 4, e1, e2 => cases e1; cases e2; exact hc
  | i + 5, e1, e2 => simp at e1
end
end Go.Proofs.Ytlhdnenlgceeeaa
