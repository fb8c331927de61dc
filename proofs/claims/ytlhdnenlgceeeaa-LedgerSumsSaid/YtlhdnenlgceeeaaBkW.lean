/- What is told at the worst is no less than what comes, as long as no order is new or replaced. No program. -/
import Derived.Test.YtlhdnenlgceeeaaBkV
import Derived.Test.YtlhdnenlgceeeaaBkT
set_option linter.unusedVariables false
set_option linter.unusedSimpArgs false
namespace Go.Bk
open Go Go.Abs
theorem dom_fills {g : Dn → Bool} {acc sym : Bs} : ∀ {l : List Dn}, (∀ f ∈ l, 0 ≤ f.qty) →
    sumL ((matsF acc sym l).map sgn) ≤ (sumW (l.map fun f => fillA (g f) acc sym f)).1 ∧ -sumL ((matsF acc sym l).map sgn) ≤ (sumW (l.map fun f => fillA (g f) acc sym f)).2
  | [], _ => by simp [matsF, sumL, sumW]
  | f :: l, h => by
    have hq := h f (by simp)
    have ih := dom_fills (g := g) (acc := acc) (sym := sym) (l := l) fun f hf => h f (by simp [hf])
    by_cases hm : f.live = true ∧ f.acc = acc ∧ f.sym = sym
    · have e : matsF acc sym (f :: l) = f :: matsF acc sym l := by unfold matsF; rw [List.filter_cons, if_pos (matB_iff.2 hm)]
      rw [e]
      simp only [List.map_cons, sumL, sumW]
      have h1 : sgn f ≤ (fillA (g f) acc sym f).1 ∧ -sgn f ≤ (fillA (g f) acc sym f).2 := by
        unfold fillA sgn; rw [if_pos hm]
        cases f.buy <;> cases g f <;> simp <;> omega
      omega
    · have e : matsF acc sym (f :: l) = matsF acc sym l := by
        unfold matsF; rw [List.filter_cons, if_neg (fun h => hm (matB_iff.1 h))]
      rw [e]
      simp only [List.map_cons, sumW]
      have h1 : fillA (g f) acc sym f = (0, 0) := by unfold fillA; rw [if_neg hm]
      rw [h1]; simp only []; omega
theorem ords_ge {acc sym : Bs} : ∀ {l : List Od}, LeW (0, 0) (sumW (l.map (ordA acc sym)))
  | [] => LeW.refl _
  | o :: l => by
    have h1 := ordA_ge (acc := acc) (sym := sym) (o := o)
    have h2 := ords_ge (acc := acc) (sym := sym) (l := l)
    simp only [LeW, List.map_cons, sumW] at *; omega
theorem sumF_val {l : List Int} (h : (sumF l).2 = true) : (sumF l).1 = sumL l := by
  unfold sumF at h ⊢
  split
  · rfl
  · rename_i hh; rw [if_neg hh] at h; simp at h
theorem sumF_num (l : List Int) : -4611686018427387904 ≤ (sumF l).1 ∧ (sumF l).1 ≤ 4611686018427387904 := by
  unfold sumF
  split
  · rename_i h
    simp only [Bool.and_eq_true] at h
    exact numB_iff.1 h.2
  · simp
theorem pos_num (b : Bk) (acc sym : Bs) : -4611686018427387904 ≤ (posF b acc sym).qty ∧ (posF b acc sym).qty ≤ 4611686018427387904 := by
  unfold posF posG
  split
  · split
    · exact sumF_num _
    · simp
  · simp
theorem pos_dom {b : Bk} {acc sym : Bs} (hr : rightBk b = true) (h : (posF b acc sym).over = false) : (posF b acc sym).qty ≤ (ofE b acc sym).1 ∧ -(posF b acc sym).qty ≤ (ofE b acc sym).2 := by
  have h1 := dom_fills (g := finalF b) (acc := acc) (sym := sym) (l := b.fills) fun f hf => (right_amounts hr f hf).1
  have h2 := ords_ge (acc := acc) (sym := sym) (l := b.orders)
  unfold posF posG at h ⊢
  rw [if_pos hr] at h ⊢
  split
  · rename_i hh
    simp only [Bool.and_eq_true] at hh
    simp only []
    rw [sumF_val hh.2.1]
    simp only [LeW, ofE, fillsA] at *; omega
  · rename_i hh; rw [if_neg hh] at h; simp at h
section
variable {l : List Ex} {N : Nat} (hb : ∀ i x, i < N → l[i]? = some x → execB x = true ∧ (comeF (bookAt l i) x).2 = 1)
include hb
theorem of_run {acc sym : Bs} {k : Nat} : ∀ (d : Nat), k + d ≤ N → k + d ≤ l.length → (∀ j x, k ≤ j → j < k + d → l[j]? = some x → ¬ x.kind = 1 ∧ ¬ x.kind = 4) → LeW (ofE (bookAt l (k + d)) acc sym) (ofE (bookAt l k) acc sym)
  | 0, _, _, _ => LeW.refl _
  | d + 1, h1, h2, h3 => by
    have ih := of_run (acc := acc) (sym := sym) d (by omega) (by omega) fun j x a1 a2 => h3 j x a1 (by omega)
    obtain ⟨x, hx⟩ : ∃ x, l[k + d]? = some x := ⟨_, List.getElem?_eq_getElem (by omega)⟩
    have hk := h3 (k + d) x (by omega) (by omega) hx
    have hf := falls (acc := acc) (sym := sym) (bookAt_right l (k + d)) (hb (k + d) x (by omega) hx).2
    have hm : moreA acc sym x = (0, 0) := by unfold moreA; rw [if_neg (fun h => by omega)]
    rw [hm] at hf
    rw [show k + (d + 1) = k + d + 1 by omega, bookAt_succ hx]
    simp only [LeW] at *; omega
theorem dominates {acc sym : Bs} {k n : Nat} (hkn : k ≤ n) (hn : n ≤ N) (hl : N ≤ l.length) (h3 : ∀ j x, k ≤ j → j < n → l[j]? = some x → ¬ x.kind = 1 ∧ ¬ x.kind = 4) (ho : (posF (allF (l.take n)) acc sym).over = false) :
    (posF (allF (l.take n)) acc sym).qty ≤ (ofF (allF (l.take k)) acc sym).1 ∧ -(posF (allF (l.take n)) acc sym).qty ≤ (ofF (allF (l.take k)) acc sym).2 := by
  rw [← bookAt_all] at ho ⊢
  rw [← bookAt_all]
  have h1 := pos_dom (bookAt_right l n) ho
  have h2 := of_run hb (acc := acc) (sym := sym) (k := k) (n - k) (by omega) (by omega) (fun j x a1 a2 => h3 j x a1 (by omega))
  rw [show k + (n - k) = n by omega] at h2
  unfold ofF; rw [if_pos (bookAt_right l k)]
  simp only [LeW] at h2; omega
end
end Go.Bk
