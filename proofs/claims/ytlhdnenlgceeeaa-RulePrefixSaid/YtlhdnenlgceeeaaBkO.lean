/- The first fault of a log's beginning. No program. -/
import Derived.Test.YtlhdnenlgceeeaaBkN
set_option linter.unusedVariables false
set_option linter.unusedSimpArgs false
namespace Go.Bk
theorem fault_run {l : List Ex} : ∀ {n : Nat}, n ≤ l.length → (∀ i x, i < n → l[i]? = some x → execB x = true ∧ (comeF (bookAt l i) x).2 = 1) → faultF l = faultGo (bookAt l n) n (l.drop n)
  | 0, _, _ => rfl
  | n + 1, hn, hb => by
    obtain ⟨x, hx⟩ : ∃ x, l[n]? = some x := ⟨_, List.getElem?_eq_getElem (by omega)⟩
    rw [fault_run (n := n) (by omega) (fun i y hi hy => hb i y (by omega) hy), drop_cons hx]
    have h := hb n x (by omega) hx
    conv => lhs; unfold faultGo
    rw [if_neg (by simp [h.1]), if_pos h.2, ← bookAt_succ hx]
    rfl
theorem bookAt_take {l : List Ex} {k i : Nat} (h : i ≤ k) : bookAt (l.take k) i = bookAt l i := by
  unfold bookAt; rw [List.take_take, Nat.min_eq_left h]
theorem take_at {l : List Ex} {k i : Nat} {x : Ex} (h : (l.take k)[i]? = some x) : i < k ∧ l[i]? = some x := by
  rw [List.getElem?_take] at h
  split at h
  · exact ⟨by assumption, h⟩
  · simp at h
theorem fault_short {l : List Ex} {n k : Nat} (hn : n ≤ l.length) (hb : ∀ i x, i < n → l[i]? = some x → execB x = true ∧ (comeF (bookAt l i) x).2 = 1) (hk : k ≤ n) : faultF (l.take k) = ((k : Int), 0) := by
  have hl : (l.take k).length = k := by rw [List.length_take]; omega
  rw [fault_run (n := k) (by omega) (fun i x hi hx => by
    rw [bookAt_take (by omega)]
    exact hb i x (by omega) (take_at hx).2)]
  rw [List.drop_of_length_le (by omega)]; rfl
theorem fault_long {l : List Ex} {n k : Nat} {x : Ex} (hn : n < l.length) (hb : ∀ i x, i < n → l[i]? = some x → execB x = true ∧ (comeF (bookAt l i) x).2 = 1) (hx : l[n]? = some x) (hf : execB x = false ∨ (comeF (bookAt l n) x).2 ≠ 1) (hk : n < k) : faultF (l.take k) = faultF l := by
  have hl : n < (l.take k).length := by rw [List.length_take]; omega
  have hx2 : (l.take k)[n]? = some x := by rw [List.getElem?_take, if_pos hk]; exact hx
  rw [fault_run (l := l) (n := n) (by omega) hb, fault_run (l := l.take k) (n := n) (by omega) (fun i y hi hy => by
    rw [bookAt_take (by omega)]
    exact hb i y hi (take_at hy).2), bookAt_take (by omega), drop_cons hx, drop_cons hx2]
  unfold faultGo
  rcases hf with hf | hf
  · rw [if_pos hf, if_pos hf]
  · split
    · rfl
    · first | rfl | (rw [if_neg hf])
theorem wrong_bad {b : Bk} {x : Ex} (hr : rightBk b = true) (h : (comeF b x).2 = 3) : 1 ≤ (comeF b x).1.bad ∧ (comeF b x).1.bad ≤ 6 := by
  cases hx : execB x with
  | false => unfold comeF at h; rw [hx] at h; simp at h
  | true =>
    have e : comeF b x = takeF b x := by unfold comeF; simp [hr, hx]
    rw [e] at h ⊢
    unfold takeF at h ⊢
    split at h <;> rename_i h1
    · simp at h
    split at h <;> rename_i h2
    · simp at h
    rw [if_neg h1, if_neg h2]
    simp only at h ⊢
    split at h <;> rename_i h3
    · rw [if_pos h3]; exact (applyF_wrong h3).2
    · simp at h
/-- What RulePrefix asks. -/
theorem prefix_facts (l : List Ex) : ∃ n : Nat, (faultF l).1 = n ∧ n ≤ l.length ∧ ((faultF l).2 = 0 ↔ n = l.length) ∧ 0 ≤ (faultF l).2 ∧ (faultF l).2 ≤ 8 ∧ (∀ k, k ≤ n → faultF (l.take k) = ((k : Int), 0)) ∧ (∀ k, n < k → faultF (l.take k) = faultF l) ∧
    (allF (l.take n)).bad = 0 ∧ (allF (l.take n)).ids.length = n := by
  obtain ⟨n, h1, h2, h3, h4⟩ := fault_spec l
  obtain ⟨g1, g2, _, _⟩ := log_facts h3 n (Nat.le_refl _) h2
  rw [bookAt_all] at g1 g2
  have hshort : ∀ k, k ≤ n → faultF (l.take k) = ((k : Int), 0) := fun k hk => fault_short h2 h3 hk
  refine ⟨n, h1, h2, ?_, ?_, ?_, hshort, ?_, g2, ?_⟩
  · rcases h4 with ⟨e1, e2⟩ | ⟨e1, x, hx, ⟨_, e2⟩ | ⟨_, _, ⟨e3, e2⟩ | ⟨_, e2⟩⟩⟩
    · exact ⟨fun _ => e1, fun _ => e2⟩
    · exact ⟨fun h => by omega, fun h => by omega⟩
    · have hw := wrong_bad (bookAt_right l n) e3
      exact ⟨fun h => by omega, fun h => by omega⟩
    · exact ⟨fun h => by omega, fun h => by omega⟩
  · rcases h4 with ⟨e1, e2⟩ | ⟨e1, x, hx, ⟨_, e2⟩ | ⟨_, _, ⟨e3, e2⟩ | ⟨_, e2⟩⟩⟩
    · omega
    · omega
    · have hw := wrong_bad (bookAt_right l n) e3; omega
    · omega
  · rcases h4 with ⟨e1, e2⟩ | ⟨e1, x, hx, ⟨_, e2⟩ | ⟨_, _, ⟨e3, e2⟩ | ⟨_, e2⟩⟩⟩
    · omega
    · omega
    · have hw := wrong_bad (bookAt_right l n) e3; omega
    · omega
  · intro k hk
    rcases h4 with ⟨e1, e2⟩ | ⟨e1, x, hx, h5⟩
    · rw [List.take_of_length_le (by omega)]
    · exact fault_long e1 h3 hx (by rcases h5 with ⟨h5, _⟩ | ⟨_, h5, _⟩; exact .inl h5; exact .inr h5) hk
  · rw [g1, List.length_map, List.length_take]; omega
end Go.Bk
