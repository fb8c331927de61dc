/- What BookAdds asks of one execution: fills stay or are taken back; what was filled adds up. No program. -/
import Derived.Test.YtlhdnenlgceeeaaPm
set_option linter.unusedVariables false
set_option linter.unusedSimpArgs false
namespace Go.Bk
def sumD (l : List Od) : Int := (l.map (·.done)).sum
theorem sumD_snoc (l : List Od) (o : Od) : sumD (l ++ [o]) = sumD l + o.done := by simp [sumD]
theorem sumD_set : ∀ {l : List Od} {n : Nat} {o o' : Od}, l[n]? = some o → sumD (l.set n o') = sumD l - o.done + o'.done
  | [], n, o, o', h => by simp at h
  | p :: l, 0, o, o', h => by
    simp only [List.getElem?_cons_zero, Option.some.injEq] at h; subst h
    simp [sumD]; omega
  | p :: l, n + 1, o, o', h => by
    have ih := sumD_set (l := l) (n := n) (o := o) (o' := o') (by simpa using h)
    simp only [sumD, List.set_cons_succ, List.map_cons, List.sum_cons] at ih ⊢
    omega
theorem sumD_take {l : List Od} {j : Nat} {o : Od} (h : l[j]? = some o) : sumD (l.take (j + 1)) = sumD (l.take j) + o.done := by rw [take_next h, sumD_snoc]
theorem sumD_bound {l : List Od} (h : ∀ o ∈ l, mayB o = true) : 0 ≤ sumD l ∧ sumD l ≤ l.length * 1099511627776 := by
  induction l with
  | nil => simp [sumD]
  | cons o l ih =>
    have h1 := h o (List.mem_cons_self ..)
    have h2 := ih fun p hp => h p (List.mem_cons_of_mem _ hp)
    simp only [mayB, smallB, Bool.and_eq_true, decide_eq_true_eq] at h1
    simp only [sumD, List.map_cons, List.sum_cons, List.length_cons] at h2 ⊢
    constructor
    · omega
    · have : ((l.length + 1 : Nat) : Int) * 1099511627776 = l.length * 1099511627776 + 1099511627776 := by omega
      omega
theorem newO_sum {l : List Od} {o : Od} (h : (newO l o).2 = 0) : sumD (newO l o).1 = sumD l := by
  unfold newO at h ⊢
  split at h <;> rename_i h1
  · simp at h
  split at h <;> rename_i h2
  · simp at h
  split at h <;> rename_i h3
  · simp at h
  rw [if_neg h1, if_neg h2, if_neg h3]
  simp [sumD_snoc]
theorem closeO_sum {l : List Od} {id : Bs} (h : (closeO l id).2 = 0) : sumD (closeO l id).1 = sumD l := by
  unfold closeO at h ⊢
  split at h
  · simp at h
  · rename_i h1
    rw [if_neg h1]
    split at h
    · simp at h
    · rename_i n hn
      obtain ⟨o, h2, h3, h4, h5⟩ := openF_get hn
      simp only [hn, h5, sumD_set h2]; omega
theorem fillO_sum {l : List Od} {id : Bs} {q p : Int} (h : (fillO l id q p).2 = 0) : sumD (fillO l id q p).1 = sumD l + q := by
  unfold fillO at h ⊢
  split at h
  · simp at h
  · rename_i h1
    rw [if_neg h1]
    split at h
    · simp at h
    · rename_i n hn
      obtain ⟨o, h2, h3, h4, h5⟩ := openF_get hn
      simp only [hn, h5] at h ⊢
      split at h <;> rename_i h6
      · simp at h
      split at h <;> rename_i h7
      · simp at h
      rw [if_neg h6, if_neg h7]
      simp only [sumD_set h2]; omega
/-- A fill that was there: it stays, or is taken back. -/
def Older (a c : Dn) : Prop := (a.live = false → c.live = false) ∧ c.qty ≤ a.qty ∧ c.id = a.id ∧ c.time = a.time
theorem Older.refl (a : Dn) : Older a a := ⟨id, Int.le_refl _, rfl, rfl⟩
theorem older_set {l : List Dn} {n : Nat} {f g : Dn} (hn : l[n]? = some f) (h : Older f g) : ∀ (j : Nat) (a : Dn), l[j]? = some a → ∃ c, (l.set n g)[j]? = some c ∧ Older a c := by
  intro j a ha
  rw [List.getElem?_set]
  by_cases e : n = j
  · subst e
    rw [hn] at ha; cases ha
    exact ⟨g, by simp [(List.getElem?_eq_some_iff.1 hn).1], h⟩
  · exact ⟨a, by simp [e, ha], .refl a⟩
theorem does_older {b c : Bk} {x : Ex} (h : Does b x c) : ∀ (j : Nat) (a : Dn), b.fills[j]? = some a → ∃ c', c.fills[j]? = some c' ∧ Older a c' := by
  cases h with
  | opens _ _ => exact fun j a ha => ⟨a, ha, .refl a⟩
  | busts hk n f hn hid hl ht ho ha hs hb => exact older_set hn ⟨fun _ => rfl, Int.le_refl _, rfl, rfl⟩
  | corrects hk n f hn hid hl ht ho ha hs hb hq hf hp => exact older_set hn ⟨fun h => h, hq, rfl, rfl⟩
  | fills _ _ _ _ _ _ _ => exact fun j a ha => ⟨a, by rw [List.getElem?_append_left (get_lt ha)]; exact ha, .refl a⟩
  | changes _ _ _ _ _ _ _ => exact fun j a ha => ⟨a, ha, .refl a⟩
  | closes _ _ _ _ _ _ _ => exact fun j a ha => ⟨a, ha, .refl a⟩
theorem adds_facts {k : Bk} {x : Ex} (hr : rightBk k = true) (hl : k.ids.length < 256) :
    (∀ (j : Nat) (a : Dn), k.fills[j]? = some a → ∃ c, (comeF k x).1.fills[j]? = some c ∧ Older a c) ∧
    ((comeF k x).2 = 1 ∧ x.kind = 2 → sumD (comeF k x).1.orders = sumD k.orders + x.qty ∧ 0 ≤ x.qty ∧ x.qty ≤ 1099511627776) ∧
    (x.kind ≠ 4 → ¬ ((comeF k x).2 = 1 ∧ x.kind = 2) → sumD (comeF k x).1.orders = sumD k.orders) ∧ (comeF k x).1.ids.length ≤ k.ids.length + 1 := by
  have hg := (stays_facts (x := x) hr hl).2.2.2.2
  cases hx : execB x with
  | false =>
    have e : comeF k x = (k, 0) := by unfold comeF; simp [hx]
    rw [e] at hg ⊢
    exact ⟨fun j a ha => ⟨a, ha, .refl a⟩, fun h => by simp at h, fun _ _ => rfl, hg⟩
  | true =>
    have e : comeF k x = takeF k x := by unfold comeF; simp [hr, hx]
    rw [e] at hg ⊢
    have hs := exec_small hx
    simp only [smallB, Bool.and_eq_true, decide_eq_true_eq] at hs
    by_cases hb : k.bad = 0
    · by_cases hm : x.id ∈ k.ids
      · have e : takeF k x = (k, 2) := by unfold takeF; rw [if_neg (by omega), if_pos (hasF_iff.2 hm)]
        rw [e] at hg ⊢
        exact ⟨fun j a ha => ⟨a, ha, .refl a⟩, fun h => by simp at h, fun _ _ => rfl, hg⟩
      · rcases take_cases hb hl hm with ⟨e, h4, h5, h6⟩ | ⟨c, h4, h5, h6⟩
        · rw [h4] at hg ⊢
          exact ⟨fun j a ha => ⟨a, ha, .refl a⟩, fun h => by simp at h, fun _ _ => rfl, hg⟩
        · rw [h4] at hg ⊢
          refine ⟨fun j a ha => does_older h6 j a ha, fun h => ⟨?_, hs.1.1, hs.1.2⟩, fun h1 h2 => ?_, hg⟩
          · show sumD c.orders = _
            cases h6 with
            | fills hk hh _ _ _ _ _ => exact fillO_sum hh
            | opens hk _ => have := h.2; omega
            | busts hk => have := h.2; omega
            | corrects hk => have := h.2; omega
            | changes hk => have := h.2; omega
            | closes hk => exact absurd h.2 hk.2.1
          · show sumD c.orders = _
            cases h6 with
            | fills hk h _ _ _ _ _ => exact absurd ⟨rfl, hk⟩ h2
            | opens hk hh => exact newO_sum hh
            | busts hk => rfl
            | corrects hk => rfl
            | changes hk => exact absurd hk h1
            | closes hk hh => exact closeO_sum hh
    · have e : takeF k x = (k, 4) := by unfold takeF; rw [if_pos (.inl hb)]
      rw [e] at hg ⊢
      exact ⟨fun j a ha => ⟨a, ha, .refl a⟩, fun h => by simp at h, fun _ _ => rfl, hg⟩
end Go.Bk
