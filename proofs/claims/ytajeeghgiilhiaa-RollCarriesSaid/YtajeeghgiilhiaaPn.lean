/- Several texts of one chain, put together (BkK, BkL, BkM, BkN). -/
import Derived.Test.YtajeeghgiilhiaaPm
/- What BookAdds asks of one execution: fills stay or are taken back; what was filled adds up. No program. -/
set_option linter.unusedVariables false
set_option linter.unusedSimpArgs false
namespace Go.Bk
def sumD (l : List Od) : Int := (l.map (·.done)).sum
theorem sumD_snoc (l : List Od) (o : Od) : sumD (l ++ [o]) = sumD l + o.done := by simp [sumD]
theorem sumD_set : ∀ {l : List Od} {n : Nat} {o o' : Od}, l[n]? = some o → sumD (l.set n o') = sumD l - o.done + o'.done
  | [], n, o, o', h => by simp at h
  | p :: l, 0, o, o', h => by
    simp only [List.getElem?_cons_zero, Option.some.injEq] at h; subst h
    simp [sumD]; omega
  | p :: l, n + 1, o, o', h => by
    have ih := sumD_set (l := l) (n := n) (o := o) (o' := o') (by simpa using h)
    simp only [sumD, List.set_cons_succ, List.map_cons, List.sum_cons] at ih ⊢
    omega
theorem sumD_take {l : List Od} {j : Nat} {o : Od} (h : l[j]? = some o) : sumD (l.take (j + 1)) = sumD (l.take j) + o.done := by rw [take_next h, sumD_snoc]
theorem sumD_bound {l : List Od} (h : ∀ o ∈ l, mayB o = true) : 0 ≤ sumD l ∧ sumD l ≤ l.length * 1099511627776 := by
  induction l with
  | nil => simp [sumD]
  | cons o l ih =>
    have h1 := h o (List.mem_cons_self ..)
    have h2 := ih fun p hp => h p (List.mem_cons_of_mem _ hp)
    simp only [mayB, smallB, Bool.and_eq_true, decide_eq_true_eq] at h1
    simp only [sumD, List.map_cons, List.sum_cons, List.length_cons] at h2 ⊢
    constructor
    · omega
    · have : ((l.length + 1 : Nat) : Int) * 1099511627776 = l.length * 1099511627776 + 1099511627776 := by omega
      omega
theorem newO_sum {l : List Od} {o : Od} (h : (newO l o).2 = 0) : sumD (newO l o).1 = sumD l := by
  unfold newO at h ⊢
  split at h <;> rename_i h1
  · simp at h
  split at h <;> rename_i h2
  · simp at h
  split at h <;> rename_i h3
  · simp at h
  rw [if_neg h1, if_neg h2, if_neg h3]
  simp [sumD_snoc]
theorem closeO_sum {l : List Od} {id : Bs} (h : (closeO l id).2 = 0) : sumD (closeO l id).1 = sumD l := by
  unfold closeO at h ⊢
  split at h
  · simp at h
  · rename_i h1
    rw [if_neg h1]
    split at h
    · simp at h
    · rename_i n hn
      obtain ⟨o, h2, h3, h4, h5⟩ := openF_get hn
      simp only [hn, h5, sumD_set h2]; omega
theorem fillO_sum {l : List Od} {id : Bs} {q p : Int} (h : (fillO l id q p).2 = 0) : sumD (fillO l id q p).1 = sumD l + q := by
  unfold fillO at h ⊢
  split at h
  · simp at h
  · rename_i h1
    rw [if_neg h1]
    split at h
    · simp at h
    · rename_i n hn
      obtain ⟨o, h2, h3, h4, h5⟩ := openF_get hn
      simp only [hn, h5] at h ⊢
      split at h <;> rename_i h6
      · simp at h
      split at h <;> rename_i h7
      · simp at h
      rw [if_neg h6, if_neg h7]
      simp only [sumD_set h2]; omega
/-- A fill that was there: it stays, or is taken back. -/
def Older (a c : Dn) : Prop := (a.live = false → c.live = false) ∧ c.qty ≤ a.qty ∧ c.id = a.id ∧ c.time = a.time
theorem Older.refl (a : Dn) : Older a a := ⟨id, Int.le_refl _, rfl, rfl⟩
theorem older_set {l : List Dn} {n : Nat} {f g : Dn} (hn : l[n]? = some f) (h : Older f g) : ∀ (j : Nat) (a : Dn), l[j]? = some a → ∃ c, (l.set n g)[j]? = some c ∧ Older a c := by
  intro j a ha
  rw [List.getElem?_set]
  by_cases e : n = j
  · subst e
    rw [hn] at ha; cases ha
    exact ⟨g, by simp [(List.getElem?_eq_some_iff.1 hn).1], h⟩
  · exact ⟨a, by simp [e, ha], .refl a⟩
theorem does_older {b c : Bk} {x : Ex} (h : Does b x c) : ∀ (j : Nat) (a : Dn), b.fills[j]? = some a → ∃ c', c.fills[j]? = some c' ∧ Older a c' := by
  cases h with
  | opens _ _ => exact fun j a ha => ⟨a, ha, .refl a⟩
  | busts hk n f hn hid hl ht ho ha hs hb => exact older_set hn ⟨fun _ => rfl, Int.le_refl _, rfl, rfl⟩
  | corrects hk n f hn hid hl ht ho ha hs hb hq hf hp => exact older_set hn ⟨fun h => h, hq, rfl, rfl⟩
  | fills _ _ _ _ _ _ _ => exact fun j a ha => ⟨a, by rw [List.getElem?_append_left (get_lt ha)]; exact ha, .refl a⟩
  | changes _ _ _ _ _ _ _ => exact fun j a ha => ⟨a, ha, .refl a⟩
  | closes _ _ _ _ _ _ _ => exact fun j a ha => ⟨a, ha, .refl a⟩
theorem adds_facts {k : Bk} {x : Ex} (hr : rightBk k = true) (hl : k.ids.length < 256) :
    (∀ (j : Nat) (a : Dn), k.fills[j]? = some a → ∃ c, (comeF k x).1.fills[j]? = some c ∧ Older a c) ∧
    ((comeF k x).2 = 1 ∧ x.kind = 2 → sumD (comeF k x).1.orders = sumD k.orders + x.qty ∧ 0 ≤ x.qty ∧ x.qty ≤ 1099511627776) ∧
    (x.kind ≠ 4 → ¬ ((comeF k x).2 = 1 ∧ x.kind = 2) → sumD (comeF k x).1.orders = sumD k.orders) ∧ (comeF k x).1.ids.length ≤ k.ids.length + 1 := by
  have hg := (stays_facts (x := x) hr hl).2.2.2.2
  cases hx : execB x with
  | false =>
    have e : comeF k x = (k, 0) := by unfold comeF; simp [hx]
    rw [e] at hg ⊢
    exact ⟨fun j a ha => ⟨a, ha, .refl a⟩, fun h => by simp at h, fun _ _ => rfl, hg⟩
  | true =>
    have e : comeF k x = takeF k x := by unfold comeF; simp [hr, hx]
    rw [e] at hg ⊢
    have hs := exec_small hx
    simp only [smallB, Bool.and_eq_true, decide_eq_true_eq] at hs
    by_cases hb : k.bad = 0
    · by_cases hm : x.id ∈ k.ids
      · have e : takeF k x = (k, 2) := by unfold takeF; rw [if_neg (by omega), if_pos (hasF_iff.2 hm)]
        rw [e] at hg ⊢
        exact ⟨fun j a ha => ⟨a, ha, .refl a⟩, fun h => by simp at h, fun _ _ => rfl, hg⟩
      · rcases take_cases hb hl hm with ⟨e, h4, h5, h6⟩ | ⟨c, h4, h5, h6⟩
        · rw [h4] at hg ⊢
          exact ⟨fun j a ha => ⟨a, ha, .refl a⟩, fun h => by simp at h, fun _ _ => rfl, hg⟩
        · rw [h4] at hg ⊢
          refine ⟨fun j a ha => does_older h6 j a ha, fun h => ⟨?_, hs.1.1, hs.1.2⟩, fun h1 h2 => ?_, hg⟩
          · show sumD c.orders = _
            cases h6 with
            | fills hk hh _ _ _ _ _ => exact fillO_sum hh
            | opens hk _ => have := h.2; omega
            | busts hk => have := h.2; omega
            | corrects hk => have := h.2; omega
            | changes hk => have := h.2; omega
            | closes hk => exact absurd h.2 hk.2.1
          · show sumD c.orders = _
            cases h6 with
            | fills hk h _ _ _ _ _ => exact absurd ⟨rfl, hk⟩ h2
            | opens hk hh => exact newO_sum hh
            | busts hk => rfl
            | corrects hk => rfl
            | changes hk => exact absurd hk h1
            | closes hk hh => exact closeO_sum hh
    · have e : takeF k x = (k, 4) := by unfold takeF; rw [if_pos (.inl hb)]
      rw [e] at hg ⊢
      exact ⟨fun j a ha => ⟨a, ha, .refl a⟩, fun h => by simp at h, fun _ _ => rfl, hg⟩
end Go.Bk

/- What an error leaves; the book by the document's way. No program. -/
set_option linter.unusedVariables false
set_option linter.unusedSimpArgs false
namespace Go.Bk
theorem err_pair {α : Type} {p : α × Int} {l : α} {k : Int} (h : p.2 = k) (hk : p.2 ≠ 0 → p.1 = l) (h0 : k ≠ 0) : p = (l, k) := by
  have := hk (by rw [h]; exact h0)
  cases p; simp_all
theorem newO_err {l : List Od} {o : Od} (h : (newO l o).2 ≠ 0) : (newO l o).1 = l := by
  revert h; unfold newO; repeat' split
  all_goals simp
theorem closeO_err {l : List Od} {id : Bs} (h : (closeO l id).2 ≠ 0) : (closeO l id).1 = l := by
  revert h; unfold closeO; repeat' split
  all_goals simp
theorem fillO_err {l : List Od} {id : Bs} {q p : Int} (h : (fillO l id q p).2 ≠ 0) : (fillO l id q p).1 = l := by
  revert h; unfold fillO; repeat' split
  all_goals (try simp)
  all_goals (repeat' split)
  all_goals simp
theorem changeO_err {l : List Od} {a b : Bs} {q p : Int} (h : (changeO l a b q p).2 ≠ 0) : (changeO l a b q p).1 = l := by
  revert h; unfold changeO; repeat' split
  all_goals (try simp)
  all_goals (repeat' split)
  all_goals simp
/-- The place of an order, in cases. -/
theorem place_get {l : List Od} {id : Bs} (h : ¬ placeI l id < 0) : ∃ n o, placeI l id = (n : Nat) ∧ placeF l id = some n ∧ l[n]? = some o ∧ n < l.length := by
  rcases placeI_cases l id with ⟨e, _⟩ | ⟨n, o, e, e2, e3⟩
  · omega
  · exact ⟨n, o, e, e2, e3, get_lt e3⟩
theorem open_of {l : List Od} {id : Bs} {n : Nat} {o : Od} (h : placeF l id = some n) (h2 : l[n]? = some o) : openF l id = if o.opn then some n else none := by
  unfold openF; rw [h]; simp only [getD_of h2]
theorem open_lt {l : List Od} {id : Bs} (h : placeI l id < 0) : openF l id = none := by
  rcases placeI_cases l id with ⟨_, e⟩ | ⟨n, o, e, _, _⟩
  · unfold openF; rw [e]
  · omega
end Go.Bk

/- The first fault of a log. No program. -/
set_option linter.unusedVariables false
set_option linter.unusedSimpArgs false
namespace Go.Bk
def faultGo : Bk → Int → List Ex → Int × Int
  | _, i, [] => (i, 0)
  | b, i, x :: l => if execB x = false then (i, 8) else if (comeF b x).2 = 1 then faultGo (comeF b x).1 (i + 1) l else if (comeF b x).2 = 3 then (i, (comeF b x).1.bad) else (i, 7)
def faultF (l : List Ex) : Int × Int := faultGo emptyB 0 l
/-- The book behind so many executions. -/
def bookAt (l : List Ex) (n : Nat) : Bk := (l.take n).foldl (fun b x => (comeF b x).1) emptyB
theorem bookAt_right (l : List Ex) : ∀ n, rightBk (bookAt l n) = true := by
  have : ∀ (m : List Ex) (b : Bk), rightBk b = true → rightBk (m.foldl (fun b x => (comeF b x).1) b) = true := by
    intro m
    induction m with
    | nil => intro b h; exact h
    | cons x m ih => intro b h; exact ih _ (comeF_right h)
  exact fun n => this _ _ empty_right
theorem bookAt_succ {l : List Ex} {n : Nat} {x : Ex} (h : l[n]? = some x) : bookAt l (n + 1) = (comeF (bookAt l n) x).1 := by
  unfold bookAt; rw [take_next h, List.foldl_append]; rfl
theorem bookAt_all (l : List Ex) (n : Nat) : bookAt l n = allF (l.take n) := by
  unfold bookAt; rw [allF_eq]
  have : ∀ (m : List Ex) (b : Bk), rightBk b = true → m.foldl (fun b x => (comeF b x).1) b = m.foldl stepF b := by
    intro m
    induction m with
    | nil => intro b _; rfl
    | cons x m ih =>
      intro b h
      have e : (comeF b x).1 = stepF b x := by
        unfold comeF stepF
        cases hx : execB x <;> simp [h]
      simp only [List.foldl_cons]
      rw [ih _ (comeF_right h), e]
  exact this _ _ empty_right
/-- What the first fault is. -/
theorem fault_spec (l : List Ex) : ∃ n : Nat, (faultF l).1 = n ∧ n ≤ l.length ∧ (∀ i x, i < n → l[i]? = some x → execB x = true ∧ (comeF (bookAt l i) x).2 = 1) ∧
    (n = l.length ∧ (faultF l).2 = 0 ∨ n < l.length ∧ ∃ x, l[n]? = some x ∧ (execB x = false ∧ (faultF l).2 = 8 ∨ execB x = true ∧ (comeF (bookAt l n) x).2 ≠ 1 ∧ ((comeF (bookAt l n) x).2 = 3 ∧ (faultF l).2 = (comeF (bookAt l n) x).1.bad ∨ (comeF (bookAt l n) x).2 ≠ 3 ∧ (faultF l).2 = 7))) := by
  have key : ∀ (k : Nat) (i : Nat), k = l.length - i → i ≤ l.length → (∀ j x, j < i → l[j]? = some x → execB x = true ∧ (comeF (bookAt l j) x).2 = 1) →
      ∃ n : Nat, (faultGo (bookAt l i) i (l.drop i)).1 = n ∧ n ≤ l.length ∧ (∀ i x, i < n → l[i]? = some x → execB x = true ∧ (comeF (bookAt l i) x).2 = 1) ∧
      (n = l.length ∧ (faultGo (bookAt l i) i (l.drop i)).2 = 0 ∨ n < l.length ∧ ∃ x, l[n]? = some x ∧ (execB x = false ∧ (faultGo (bookAt l i) i (l.drop i)).2 = 8 ∨ execB x = true ∧ (comeF (bookAt l n) x).2 ≠ 1 ∧ ((comeF (bookAt l n) x).2 = 3 ∧ (faultGo (bookAt l i) i (l.drop i)).2 = (comeF (bookAt l n) x).1.bad ∨ (comeF (bookAt l n) x).2 ≠ 3 ∧ (faultGo (bookAt l i) i (l.drop i)).2 = 7))) := by
    intro k
    induction k with
    | zero =>
      intro i hk hi hb
      have : l.drop i = [] := List.drop_eq_nil_of_le (by omega)
      rw [this]
      exact ⟨i, rfl, hi, hb, .inl ⟨by omega, rfl⟩⟩
    | succ k ih =>
      intro i hk hi hb
      obtain ⟨x, hx⟩ : ∃ x, l[i]? = some x := ⟨_, List.getElem?_eq_getElem (by omega)⟩
      rw [drop_cons hx]
      unfold faultGo
      by_cases h1 : execB x = false
      · rw [if_pos h1]; exact ⟨i, rfl, hi, hb, .inr ⟨by omega, x, hx, .inl ⟨h1, rfl⟩⟩⟩
      · rw [if_neg h1]
        have h1' : execB x = true := by simpa using h1
        by_cases h2 : (comeF (bookAt l i) x).2 = 1
        · rw [if_pos h2, ← bookAt_succ hx]
          have := ih (i + 1) (by omega) (by omega) (fun j y hj hy => by
            rcases Nat.lt_or_ge j i with h' | h'
            · exact hb j y h' hy
            · have : j = i := by omega
              subst this
              rw [hx] at hy; cases hy; exact ⟨h1', h2⟩)
          simpa using this
        · rw [if_neg h2]
          by_cases h3 : (comeF (bookAt l i) x).2 = 3
          · rw [if_pos h3]; exact ⟨i, rfl, hi, hb, .inr ⟨by omega, x, hx, .inr ⟨h1', h2, .inl ⟨h3, rfl⟩⟩⟩⟩
          · rw [if_neg h3]; exact ⟨i, rfl, hi, hb, .inr ⟨by omega, x, hx, .inr ⟨h1', h2, .inr ⟨h3, rfl⟩⟩⟩⟩
  exact key _ 0 rfl (Nat.zero_le _) (fun j x hj => by omega)
end Go.Bk

/- A log that keeps the rules: its times, its names, what busts and corrects. No program. -/
set_option linter.unusedVariables false
set_option linter.unusedSimpArgs false
namespace Go.Bk
theorem fresh_cases {b : Bk} {x : Ex} (hr : rightBk b = true) (h : (comeF b x).2 = 1) : execB x = true ∧ b.bad = 0 ∧ x.id ∉ b.ids ∧
    ∃ c, comeF b x = (⟨c.orders, c.fills, b.ids ++ [x.id], x.time, 0⟩, 1) ∧ b.clock ≤ x.time ∧ Does ⟨b.orders, b.fills, b.ids ++ [x.id], b.clock, b.bad⟩ x c := by
  cases hx : execB x with
  | false => unfold comeF at h; rw [hx] at h; simp at h
  | true =>
    have e : comeF b x = takeF b x := by unfold comeF; simp [hr, hx]
    rw [e] at h ⊢
    by_cases h1 : b.bad ≠ 0 ∨ 256 ≤ b.ids.length
    · unfold takeF at h; rw [if_pos h1] at h; simp at h
    · simp only [not_or, ne_eq, Decidable.not_not] at h1
      by_cases hm : x.id ∈ b.ids
      · unfold takeF at h; rw [if_neg (by omega), if_pos (hasF_iff.2 hm)] at h; simp at h
      · rcases take_cases h1.1 (by omega) hm with ⟨e', h4, _⟩ | ⟨c, h4, h5, h6⟩
        · rw [h4] at h; simp at h
        · exact ⟨rfl, h1.1, hm, c, h4, h5, h6⟩
theorem does_fills {b c : Bk} {x : Ex} (h : Does b x c) : ∀ f ∈ c.fills, (∃ g ∈ b.fills, g.id = f.id ∧ g.time = f.time) ∨ (x.kind = 2 ∧ f = doneOf x) := by
  intro f hf
  cases h with
  | opens _ _ => exact .inl ⟨f, hf, rfl, rfl⟩
  | busts hk n g hn =>
    rcases List.mem_or_eq_of_mem_set hf with hf | rfl
    · exact .inl ⟨f, hf, rfl, rfl⟩
    · exact .inl ⟨g, List.mem_of_getElem? hn, rfl, rfl⟩
  | corrects hk n g hn =>
    rcases List.mem_or_eq_of_mem_set hf with hf | rfl
    · exact .inl ⟨f, hf, rfl, rfl⟩
    · exact .inl ⟨g, List.mem_of_getElem? hn, rfl, rfl⟩
  | fills hk _ _ _ _ _ _ =>
    rcases List.mem_append.1 hf with hf | hf
    · exact .inl ⟨f, hf, rfl, rfl⟩
    · exact .inr ⟨hk, List.mem_singleton.1 hf⟩
  | changes _ _ _ _ _ _ _ => exact .inl ⟨f, hf, rfl, rfl⟩
  | closes _ _ _ _ _ _ _ => exact .inl ⟨f, hf, rfl, rfl⟩
theorem does_refs {b c : Bk} {x : Ex} (h : Does b x c) (hk : x.kind = 7 ∨ x.kind = 8) : ∃ f ∈ b.fills, f.id = x.ref ∧ x.time - f.time ≤ 10 := by
  cases h with
  | opens h _ => omega
  | busts _ n g hn hid _ ht => exact ⟨g, List.mem_of_getElem? hn, hid, ht⟩
  | corrects _ n g hn hid _ ht => exact ⟨g, List.mem_of_getElem? hn, hid, ht⟩
  | fills h _ _ _ _ _ _ => omega
  | changes h _ _ _ _ _ _ => omega
  | closes h => omega
/-- How a log stands that has kept the rules so far. -/
theorem log_facts {l : List Ex} {n : Nat} (hb : ∀ i x, i < n → l[i]? = some x → execB x = true ∧ (comeF (bookAt l i) x).2 = 1) : ∀ i, i ≤ n → i ≤ l.length →
    (bookAt l i).ids = (l.take i).map (·.id) ∧ (bookAt l i).bad = 0 ∧ (∀ y, 0 < i → l[i - 1]? = some y → (bookAt l i).clock = y.time) ∧
    ∀ f ∈ (bookAt l i).fills, ∃ k y, k < i ∧ l[k]? = some y ∧ y.id = f.id ∧ y.kind = 2 ∧ y.time = f.time := by
  intro i
  induction i with
  | zero => intro _ _; exact ⟨rfl, rfl, fun y h => by omega, fun f hf => by simp [bookAt, emptyB] at hf⟩
  | succ i ih =>
    intro h1 h2
    obtain ⟨g1, g2, g3, g4⟩ := ih (by omega) (by omega)
    obtain ⟨x, hx⟩ : ∃ x, l[i]? = some x := ⟨_, List.getElem?_eq_getElem (by omega)⟩
    obtain ⟨_, _, _, c, e, h5, h6⟩ := fresh_cases (bookAt_right l i) (hb i x (by omega) hx).2
    rw [bookAt_succ hx, e]
    refine ⟨?_, rfl, fun y _ hy => ?_, fun f hf => ?_⟩
    · show (bookAt l i).ids ++ [x.id] = _
      rw [take_next hx, g1]; simp
    · simp only [Nat.add_sub_cancel] at hy
      rw [hx] at hy; cases hy; rfl
    · rcases does_fills h6 f hf with ⟨g, hg, e1, e2⟩ | ⟨hk, rfl⟩
      · obtain ⟨k, y, hk, hy, e3, e4, e5⟩ := g4 g hg
        exact ⟨k, y, by omega, hy, e3.trans e1, e4, e5.trans e2⟩
      · exact ⟨i, x, by omega, hx, rfl, hk, rfl⟩
theorem rule_times {l : List Ex} {n : Nat} (hn : n ≤ l.length) (hb : ∀ i x, i < n → l[i]? = some x → execB x = true ∧ (comeF (bookAt l i) x).2 = 1) {i : Nat} {x : Ex} (hi : i < n) (hx : l[i]? = some x) :
    (∀ y, 0 < i → l[i - 1]? = some y → y.time ≤ x.time) ∧ (∀ k y, k < i → l[k]? = some y → y.id ≠ x.id) ∧
    ((x.kind = 7 ∨ x.kind = 8) → ∃ k y, k < i ∧ l[k]? = some y ∧ y.id = x.ref ∧ y.kind = 2 ∧ x.time - y.time ≤ 10) ∧ 0 ≤ x.time ∧ x.time ≤ 4611686018427387904 := by
  obtain ⟨g1, g2, g3, g4⟩ := log_facts hb i (by omega) (by omega)
  have hf := hb i x hi hx
  obtain ⟨_, _, h3, c, e, h5, h6⟩ := fresh_cases (bookAt_right l i) hf.2
  refine ⟨fun y h hy => by rw [← g3 y h hy]; exact h5, fun k y hk hy e1 => ?_, fun hk => ?_, (exec_small hf.1).2.2⟩
  · refine h3 ?_
    rw [g1, ← e1]
    exact List.mem_map.2 ⟨y, List.mem_iff_getElem?.2 ⟨k, by rw [List.getElem?_take, if_pos hk]; exact hy⟩, rfl⟩
  · obtain ⟨f, hf, e1, e2⟩ := does_refs h6 hk
    obtain ⟨k, y, hk, hy, e3, e4, e5⟩ := g4 f hf
    exact ⟨k, y, hk, hy, e3.trans e1, e4, by rw [e5]; exact e2⟩
def foundB (x : Ex) (y : Ex) : Bool := decide (y.id = x.ref) && decide (y.kind = 2) && decide (x.time - y.time ≤ 10)
end Go.Bk
