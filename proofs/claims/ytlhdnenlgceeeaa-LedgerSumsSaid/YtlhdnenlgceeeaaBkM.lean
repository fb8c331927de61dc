/- The first fault of a log. No program. -/
import Derived.Test.YtlhdnenlgceeeaaBkK
set_option linter.unusedVariables false
set_option linter.unusedSimpArgs false
namespace Go.Bk
def faultGo : Bk → Int → List Ex → Int × Int
  | _, i, [] => (i, 0)
  | b, i, x :: l => if execB x = false then (i, 8) else if (comeF b x).2 = 1 then faultGo (comeF b x).1 (i + 1) l else if (comeF b x).2 = 3 then (i, (comeF b x).1.bad) else (i, 7)
def faultF (l : List Ex) : Int × Int := faultGo emptyB 0 l
/-- The book behind so many executions. -/
def bookAt (l : List Ex) (n : Nat) : Bk := (l.take n).foldl (fun b x => (comeF b x).1) emptyB
theorem bookAt_right (l : List Ex) : ∀ n, rightBk (bookAt l n) = true := by
  have : ∀ (m : List Ex) (b : Bk), rightBk b = true → rightBk (m.foldl (fun b x => (comeF b x).1) b) = true := by
    intro m
    induction m with
    | nil => intro b h; exact h
    | cons x m ih => intro b h; exact ih _ (comeF_right h)
  exact fun n => this _ _ empty_right
theorem bookAt_succ {l : List Ex} {n : Nat} {x : Ex} (h : l[n]? = some x) : bookAt l (n + 1) = (comeF (bookAt l n) x).1 := by
  unfold bookAt; rw [take_next h, List.foldl_append]; rfl
theorem bookAt_all (l : List Ex) (n : Nat) : bookAt l n = allF (l.take n) := by
  unfold bookAt; rw [allF_eq]
  have : ∀ (m : List Ex) (b : Bk), rightBk b = true → m.foldl (fun b x => (comeF b x).1) b = m.foldl stepF b := by
    intro m
    induction m with
    | nil => intro b _; rfl
    | cons x m ih =>
      intro b h
      have e : (comeF b x).1 = stepF b x := by
        unfold comeF stepF
        cases hx : execB x <;> simp [h]
      simp only [List.foldl_cons]
      rw [ih _ (comeF_right h), e]
  exact this _ _ empty_right
/-- What the first fault is. -/
theorem fault_spec (l : List Ex) : ∃ n : Nat, (faultF l).1 = n ∧ n ≤ l.length ∧ (∀ i x, i < n → l[i]? = some x → execB x = true ∧ (comeF (bookAt l i) x).2 = 1) ∧
    (n = l.length ∧ (faultF l).2 = 0 ∨ n < l.length ∧ ∃ x, l[n]? = some x ∧ (execB x = false ∧ (faultF l).2 = 8 ∨ execB x = true ∧ (comeF (bookAt l n) x).2 ≠ 1 ∧ ((comeF (bookAt l n) x).2 = 3 ∧ (faultF l).2 = (comeF (bookAt l n) x).1.bad ∨ (comeF (bookAt l n) x).2 ≠ 3 ∧ (faultF l).2 = 7))) := by
  have key : ∀ (k : Nat) (i : Nat), k = l.length - i → i ≤ l.length → (∀ j x, j < i → l[j]? = some x → execB x = true ∧ (comeF (bookAt l j) x).2 = 1) →
      ∃ n : Nat, (faultGo (bookAt l i) i (l.drop i)).1 = n ∧ n ≤ l.length ∧ (∀ i x, i < n → l[i]? = some x → execB x = true ∧ (comeF (bookAt l i) x).2 = 1) ∧
      (n = l.length ∧ (faultGo (bookAt l i) i (l.drop i)).2 = 0 ∨ n < l.length ∧ ∃ x, l[n]? = some x ∧ (execB x = false ∧ (faultGo (bookAt l i) i (l.drop i)).2 = 8 ∨ execB x = true ∧ (comeF (bookAt l n) x).2 ≠ 1 ∧ ((comeF (bookAt l n) x).2 = 3 ∧ (faultGo (bookAt l i) i (l.drop i)).2 = (comeF (bookAt l n) x).1.bad ∨ (comeF (bookAt l n) x).2 ≠ 3 ∧ (faultGo (bookAt l i) i (l.drop i)).2 = 7))) := by
    intro k
    induction k with
    | zero =>
      intro i hk hi hb
      have : l.drop i = [] := List.drop_eq_nil_of_le (by omega)
      rw [this]
      exact ⟨i, rfl, hi, hb, .inl ⟨by omega, rfl⟩⟩
    | succ k ih =>
      intro i hk hi hb
      obtain ⟨x, hx⟩ : ∃ x, l[i]? = some x := ⟨_, List.getElem?_eq_getElem (by omega)⟩
      rw [drop_cons hx]
      unfold faultGo
      by_cases h1 : execB x = false
      · rw [if_pos h1]; exact ⟨i, rfl, hi, hb, .inr ⟨by omega, x, hx, .inl ⟨h1, rfl⟩⟩⟩
      · rw [if_neg h1]
        have h1' : execB x = true := by simpa using h1
        by_cases h2 : (comeF (bookAt l i) x).2 = 1
        · rw [if_pos h2, ← bookAt_succ hx]
          have := ih (i + 1) (by omega) (by omega) (fun j y hj hy => by
            rcases Nat.lt_or_ge j i with h' | h'
            · exact hb j y h' hy
            · have : j = i := by omega
              subst this
              rw [hx] at hy; cases hy; exact ⟨h1', h2⟩)
          simpa using this
        · rw [if_neg h2]
          by_cases h3 : (comeF (bookAt l i) x).2 = 3
          · rw [if_pos h3]; exact ⟨i, rfl, hi, hb, .inr ⟨by omega, x, hx, .inr ⟨h1', h2, .inl ⟨h3, rfl⟩⟩⟩⟩
          · rw [if_neg h3]; exact ⟨i, rfl, hi, hb, .inr ⟨by omega, x, hx, .inr ⟨h1', h2, .inr ⟨h3, rfl⟩⟩⟩⟩
  exact key _ 0 rfl (Nat.zero_le _) (fun j x hj => by omega)
end Go.Bk
