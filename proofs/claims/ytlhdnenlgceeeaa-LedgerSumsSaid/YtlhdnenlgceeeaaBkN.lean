/- A log that keeps the rules: its times, its names, what busts and corrects. No program. -/
import Derived.Test.YtlhdnenlgceeeaaBkM
set_option linter.unusedVariables false
set_option linter.unusedSimpArgs false
namespace Go.Bk
theorem fresh_cases {b : Bk} {x : Ex} (hr : rightBk b = true) (h : (comeF b x).2 = 1) : execB x = true ∧ b.bad = 0 ∧ x.id ∉ b.ids ∧
    ∃ c, comeF b x = (⟨c.orders, c.fills, b.ids ++ [x.id], x.time, 0⟩, 1) ∧ b.clock ≤ x.time ∧ Does ⟨b.orders, b.fills, b.ids ++ [x.id], b.clock, b.bad⟩ x c := by
  cases hx : execB x with
  | false => unfold comeF at h; rw [hx] at h; simp at h
  | true =>
    have e : comeF b x = takeF b x := by unfold comeF; simp [hr, hx]
    rw [e] at h ⊢
    by_cases h1 : b.bad ≠ 0 ∨ 256 ≤ b.ids.length
    · unfold takeF at h; rw [if_pos h1] at h; simp at h
    · simp only [not_or, ne_eq, Decidable.not_not] at h1
      by_cases hm : x.id ∈ b.ids
      · unfold takeF at h; rw [if_neg (by omega), if_pos (hasF_iff.2 hm)] at h; simp at h
      · rcases take_cases h1.1 (by omega) hm with ⟨e', h4, _⟩ | ⟨c, h4, h5, h6⟩
        · rw [h4] at h; simp at h
        · exact ⟨rfl, h1.1, hm, c, h4, h5, h6⟩
theorem does_fills {b c : Bk} {x : Ex} (h : Does b x c) : ∀ f ∈ c.fills, (∃ g ∈ b.fills, g.id = f.id ∧ g.time = f.time) ∨ (x.kind = 2 ∧ f = doneOf x) := by
  intro f hf
  cases h with
  | opens _ _ => exact .inl ⟨f, hf, rfl, rfl⟩
  | busts hk n g hn =>
    rcases List.mem_or_eq_of_mem_set hf with hf | rfl
    · exact .inl ⟨f, hf, rfl, rfl⟩
    · exact .inl ⟨g, List.mem_of_getElem? hn, rfl, rfl⟩
  | corrects hk n g hn =>
    rcases List.mem_or_eq_of_mem_set hf with hf | rfl
    · exact .inl ⟨f, hf, rfl, rfl⟩
    · exact .inl ⟨g, List.mem_of_getElem? hn, rfl, rfl⟩
  | fills hk _ _ _ _ _ _ =>
    rcases List.mem_append.1 hf with hf | hf
    · exact .inl ⟨f, hf, rfl, rfl⟩
    · exact .inr ⟨hk, List.mem_singleton.1 hf⟩
  | changes _ _ _ _ _ _ _ => exact .inl ⟨f, hf, rfl, rfl⟩
  | closes _ _ _ _ _ _ _ => exact .inl ⟨f, hf, rfl, rfl⟩
theorem does_refs {b c : Bk} {x : Ex} (h : Does b x c) (hk : x.kind = 7 ∨ x.kind = 8) : ∃ f ∈ b.fills, f.id = x.ref ∧ x.time - f.time ≤ 10 := by
  cases h with
  | opens h _ => omega
  | busts _ n g hn hid _ ht => exact ⟨g, List.mem_of_getElem? hn, hid, ht⟩
  | corrects _ n g hn hid _ ht => exact ⟨g, List.mem_of_getElem? hn, hid, ht⟩
  | fills h _ _ _ _ _ _ => omega
  | changes h _ _ _ _ _ _ => omega
  | closes h => omega
/-- How a log stands that has kept the rules so far. -/
theorem log_facts {l : List Ex} {n : Nat} (hb : ∀ i x, i < n → l[i]? = some x → execB x = true ∧ (comeF (bookAt l i) x).2 = 1) : ∀ i, i ≤ n → i ≤ l.length →
    (bookAt l i).ids = (l.take i).map (·.id) ∧ (bookAt l i).bad = 0 ∧ (∀ y, 0 < i → l[i - 1]? = some y → (bookAt l i).clock = y.time) ∧
    ∀ f ∈ (bookAt l i).fills, ∃ k y, k < i ∧ l[k]? = some y ∧ y.id = f.id ∧ y.kind = 2 ∧ y.time = f.time := by
  intro i
  induction i with
  | zero => intro _ _; exact ⟨rfl, rfl, fun y h => by omega, fun f hf => by simp [bookAt, emptyB] at hf⟩
  | succ i ih =>
    intro h1 h2
    obtain ⟨g1, g2, g3, g4⟩ := ih (by omega) (by omega)
    obtain ⟨x, hx⟩ : ∃ x, l[i]? = some x := ⟨_, List.getElem?_eq_getElem (by omega)⟩
    obtain ⟨_, _, _, c, e, h5, h6⟩ := fresh_cases (bookAt_right l i) (hb i x (by omega) hx).2
    rw [bookAt_succ hx, e]
    refine ⟨?_, rfl, fun y _ hy => ?_, fun f hf => ?_⟩
    · show (bookAt l i).ids ++ [x.id] = _
      rw [take_next hx, g1]; simp
    · simp only [Nat.add_sub_cancel] at hy
      rw [hx] at hy; cases hy; rfl
    · rcases does_fills h6 f hf with ⟨g, hg, e1, e2⟩ | ⟨hk, rfl⟩
      · obtain ⟨k, y, hk, hy, e3, e4, e5⟩ := g4 g hg
        exact ⟨k, y, by omega, hy, e3.trans e1, e4, e5.trans e2⟩
      · exact ⟨i, x, by omega, hx, rfl, hk, rfl⟩
theorem rule_times {l : List Ex} {n : Nat} (hn : n ≤ l.length) (hb : ∀ i x, i < n → l[i]? = some x → execB x = true ∧ (comeF (bookAt l i) x).2 = 1) {i : Nat} {x : Ex} (hi : i < n) (hx : l[i]? = some x) :
    (∀ y, 0 < i → l[i - 1]? = some y → y.time ≤ x.time) ∧ (∀ k y, k < i → l[k]? = some y → y.id ≠ x.id) ∧
    ((x.kind = 7 ∨ x.kind = 8) → ∃ k y, k < i ∧ l[k]? = some y ∧ y.id = x.ref ∧ y.kind = 2 ∧ x.time - y.time ≤ 10) ∧ 0 ≤ x.time ∧ x.time ≤ 4611686018427387904 := by
  obtain ⟨g1, g2, g3, g4⟩ := log_facts hb i (by omega) (by omega)
  have hf := hb i x hi hx
  obtain ⟨_, _, h3, c, e, h5, h6⟩ := fresh_cases (bookAt_right l i) hf.2
  refine ⟨fun y h hy => by rw [← g3 y h hy]; exact h5, fun k y hk hy e1 => ?_, fun hk => ?_, (exec_small hf.1).2.2⟩
  · refine h3 ?_
    rw [g1, ← e1]
    exact List.mem_map.2 ⟨y, List.mem_iff_getElem?.2 ⟨k, by rw [List.getElem?_take, if_pos hk]; exact hy⟩, rfl⟩
  · obtain ⟨f, hf, e1, e2⟩ := does_refs h6 hk
    obtain ⟨k, y, hk, hy, e3, e4, e5⟩ := g4 f hf
    exact ⟨k, y, hk, hy, e3.trans e1, e4, by rw [e5]; exact e2⟩
def foundB (x : Ex) (y : Ex) : Bool := decide (y.id = x.ref) && decide (y.kind = 2) && decide (x.time - y.time ≤ 10)
end Go.Bk
