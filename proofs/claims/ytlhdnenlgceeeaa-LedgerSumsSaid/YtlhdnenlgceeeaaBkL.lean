/- What an error leaves; the book by the document's way. No program. -/
import Derived.Test.YtlhdnenlgceeeaaBkK
set_option linter.unusedVariables false
set_option linter.unusedSimpArgs false
namespace Go.Bk
theorem err_pair {α : Type} {p : α × Int} {l : α} {k : Int} (h : p.2 = k) (hk : p.2 ≠ 0 → p.1 = l) (h0 : k ≠ 0) : p = (l, k) := by
  have := hk (by rw [h]; exact h0)
  cases p; simp_all
theorem newO_err {l : List Od} {o : Od} (h : (newO l o).2 ≠ 0) : (newO l o).1 = l := by
  revert h; unfold newO; repeat' split
  all_goals simp
theorem closeO_err {l : List Od} {id : Bs} (h : (closeO l id).2 ≠ 0) : (closeO l id).1 = l := by
  revert h; unfold closeO; repeat' split
  all_goals simp
theorem fillO_err {l : List Od} {id : Bs} {q p : Int} (h : (fillO l id q p).2 ≠ 0) : (fillO l id q p).1 = l := by
  revert h; unfold fillO; repeat' split
  all_goals (try simp)
  all_goals (repeat' split)
  all_goals simp
theorem changeO_err {l : List Od} {a b : Bs} {q p : Int} (h : (changeO l a b q p).2 ≠ 0) : (changeO l a b q p).1 = l := by
  revert h; unfold changeO; repeat' split
  all_goals (try simp)
  all_goals (repeat' split)
  all_goals simp
/-- The place of an order, in cases. -/
theorem place_get {l : List Od} {id : Bs} (h : ¬ placeI l id < 0) : ∃ n o, placeI l id = (n : Nat) ∧ placeF l id = some n ∧ l[n]? = some o ∧ n < l.length := by
  rcases placeI_cases l id with ⟨e, _⟩ | ⟨n, o, e, e2, e3⟩
  · omega
  · exact ⟨n, o, e, e2, e3, get_lt e3⟩
theorem open_of {l : List Od} {id : Bs} {n : Nat} {o : Od} (h : placeF l id = some n) (h2 : l[n]? = some o) : openF l id = if o.opn then some n else none := by
  unfold openF; rw [h]; simp only [getD_of h2]
theorem open_lt {l : List Od} {id : Bs} (h : placeI l id < 0) : openF l id = none := by
  rcases placeI_cases l id with ⟨_, e⟩ | ⟨n, o, e, _, _⟩
  · unfold openF; rw [e]
  · omega
end Go.Bk
