/- The layer, the plain facts: several texts of one chain, put together (BkG, BkH, BkI, BkJ). -/
import Derived.Test.YtajeeghgiilhiaaPl
/- Books that are right; first places; sorted names. No program. -/
set_option linter.unusedVariables false
set_option linter.unusedSimpArgs false
namespace Go.Bk
theorem drop_cons {α : Type} {l : List α} {i : Nat} {x : α} (h : l[i]? = some x) : l.drop i = x :: l.drop (i + 1) := by
  obtain ⟨hi, rfl⟩ := List.getElem?_eq_some_iff.1 h
  exact List.drop_eq_getElem_cons hi
/-! ### first places -/
def idxGo {α : Type} (p : α → Bool) : Int → List α → Int
  | _, [] => -1
  | i, x :: l => if p x then i else idxGo p (i + 1) l
def idxI {α : Type} (p : α → Bool) (l : List α) : Int := idxGo p 0 l
theorem idxGo_find {α : Type} (p : α → Bool) : ∀ (l : List α) (i : Int), idxGo p i l = match l.findIdx? p with | some n => i + n | none => -1
  | [], i => rfl
  | x :: l, i => by
    unfold idxGo
    rw [List.findIdx?_cons]
    by_cases h : p x = true
    · simp [h]
    · simp only [h, Bool.false_eq_true, if_false]
      rw [idxGo_find p l (i + 1)]
      cases l.findIdx? p with
      | none => rfl
      | some n => simp only [Option.map_some, Int.natCast_add, Int.natCast_one]; show i + 1 + (n : Int) = i + ((n : Int) + 1); omega
theorem idxI_find {α : Type} (p : α → Bool) (l : List α) : idxI p l = match l.findIdx? p with | some n => (n : Int) | none => -1 := by
  unfold idxI; rw [idxGo_find]
  cases l.findIdx? p with
  | none => rfl
  | some n => simp
theorem placeI_idx (l : List Od) (id : Bs) : placeI l id = idxI (fun o => decide (o.id = id)) l := by rw [idxI_find]; rfl
theorem atI_idx (l : List Dn) (id : Bs) : atI l id = idxI (fun o => decide (o.id = id)) l := by rw [idxI_find]; rfl
theorem idI_idx (l : List Bs) (id : Bs) : idI l id = idxI (fun s => decide (id = s)) l := by rw [idxI_find]; rfl
theorem idI_idx' (l : List Bs) (id : Bs) : idI l id = idxI (fun s => decide (s = id)) l := by
  rw [idI_idx]; congr 1; funext s; simp [eq_comm]
theorem idxI_lt {α : Type} {p : α → Bool} {l : List α} : idxI p l < 0 ↔ ∀ x ∈ l, p x = false := by
  rw [idxI_find]
  cases h : l.findIdx? p with
  | none => simp [List.findIdx?_eq_none_iff.1 h]; exact fun x hx => by simpa using List.findIdx?_eq_none_iff.1 h x hx
  | some n =>
    obtain ⟨hn, h1, _⟩ := List.findIdx?_eq_some_iff_getElem.1 h
    constructor
    · intro h; exact absurd h (by show ¬ ((n : Nat) : Int) < 0; omega)
    · intro h
      have := h l[n] (List.getElem_mem hn)
      rw [this] at h1; simp at h1
theorem idxI_at {α : Type} {p : α → Bool} {l : List α} {i : Nat} {x : α} (h : l[i]? = some x) (hp : p x = true) : idxI p l = i ↔ ∀ y ∈ l.take i, p y = false := by
  have hi := (List.getElem?_eq_some_iff.1 h).1
  have hx := (List.getElem?_eq_some_iff.1 h).2
  rw [idxI_find]
  cases hf : l.findIdx? p with
  | none =>
    have := List.findIdx?_eq_none_iff.1 hf x (List.mem_of_getElem? h)
    rw [hp] at this; simp at this
  | some n =>
    obtain ⟨hn, h1, h2⟩ := List.findIdx?_eq_some_iff_getElem.1 hf
    simp only [Int.ofNat_inj]
    constructor
    · rintro rfl y hy
      obtain ⟨k, hk⟩ := List.mem_iff_getElem?.1 hy
      rw [List.getElem?_take] at hk
      split at hk
      · rename_i hkn
        have := h2 k hkn
        have hk' := (List.getElem?_eq_some_iff.1 hk).2
        rw [hk'] at this; simpa using this
      · simp at hk
    · intro h
      rcases Nat.lt_trichotomy n i with h3 | h3 | h3
      · have : l[n] ∈ l.take i := List.mem_iff_getElem?.2 ⟨n, by rw [List.getElem?_take, if_pos h3, List.getElem?_eq_getElem]⟩
        have := h _ this
        rw [h1] at this; simp at this
      · exact h3
      · have := h2 i h3
        rw [hx, hp] at this; simp at this
/-! ### names that are there twice -/
def twiceB : List Bs → Bool
  | x :: y :: l => decide (y = x) || twiceB (y :: l)
  | _ => false
theorem le_B_trans (a b c : Bs) (h1 : decide (a ≤ b) = true) (h2 : decide (b ≤ c) = true) : decide (a ≤ c) = true := by
  simp only [decide_eq_true_eq] at *; exact List.le_trans h1 h2
theorem le_B_total (a b : Bs) : (decide (a ≤ b) || decide (b ≤ a)) = true := by
  simp only [Bool.or_eq_true, decide_eq_true_eq]; exact List.le_total a b
theorem twiceB_sorted : ∀ {l : List Bs}, l.Pairwise (fun a b => a ≤ b) → (twiceB l = false ↔ l.Nodup)
  | [], _ => by simp [twiceB]
  | [x], _ => by simp [twiceB]
  | x :: y :: l, h => by
    have ih := twiceB_sorted (List.pairwise_cons.1 h).2
    unfold twiceB
    rw [Bool.or_eq_false_iff, ih, List.nodup_cons (a := x), decide_eq_false_iff_not]
    constructor
    · rintro ⟨h1, h2⟩
      refine ⟨fun hx => ?_, h2⟩
      rcases List.mem_cons.1 hx with rfl | hx
      · exact h1 rfl
      · have h3 := (List.pairwise_cons.1 h).1 y (List.mem_cons_self ..)
        have h4 := (List.pairwise_cons.1 (List.pairwise_cons.1 h).2).1 x hx
        exact h1 (List.le_antisymm h4 h3)
    · rintro ⟨h1, h2⟩
      exact ⟨fun e => h1 (by rw [e]; exact List.mem_cons_self ..), h2⟩
abbrev srt (l : List Bs) : List Bs := l.mergeSort fun x y => decide (x ≤ y)
theorem srt_sorted (l : List Bs) : (srt l).Pairwise (fun a b => a ≤ b) := by
  have := List.pairwise_mergeSort (le := fun x y : Bs => decide (x ≤ y)) le_B_trans le_B_total l
  exact this.imp (fun h => by simpa using h)
theorem twiceB_srt (l : List Bs) : twiceB (srt l) = !decide l.Nodup := by
  have h1 := twiceB_sorted (srt_sorted l)
  have h2 : (srt l).Nodup ↔ l.Nodup := (List.mergeSort_perm l _).nodup_iff
  rw [h2] at h1
  by_cases h : l.Nodup
  · rw [h1.2 h]; simp [h]
  · cases hb : twiceB (srt l) with
    | true => simp [h]
    | false => exact absurd (h1.1 hb) h
theorem mem_srt {l : List Bs} {x : Bs} : x ∈ srt l ↔ x ∈ l := List.mem_mergeSort
/-! ### a right book -/
def fillB (b : Bk) (f : Dn) : Bool := smallB f.qty && smallB f.price && decide (0 ≤ f.time) && decide (f.time ≤ b.clock) && decide (f.id ∈ b.ids)
def headB (b : Bk) : Bool := rightO b.orders && decide (b.fills.length ≤ 256) && decide (b.ids.length ≤ 256) && decide (0 ≤ b.clock) && decide (b.clock ≤ 4611686018427387904) && decide (0 ≤ b.bad) && decide (b.bad ≤ 6)
def rightBk (b : Bk) : Bool := headB b && decide b.ids.Nodup && b.fills.all (fillB b) && decide (b.fills.map (·.id)).Nodup
def comeF (b : Bk) (x : Ex) : Bk × Int := if rightBk b && execB x then takeF b x else (b, 0)
end Go.Bk

/- What is told keeps a book right. No program. -/
set_option linter.unusedVariables false
set_option linter.unusedSimpArgs false
namespace Go.Bk
theorem placeF_isNone {l : List Od} {id : Bs} : (placeF l id).isNone = decide (id ∉ l.map (·.id)) := by
  unfold placeF
  cases h : l.findIdx? (fun o => decide (o.id = id)) with
  | none =>
    have := List.findIdx?_eq_none_iff.1 h
    simp only [Option.isNone_none]
    symm; rw [decide_eq_true_eq]
    intro hm
    obtain ⟨o, ho, rfl⟩ := List.mem_map.1 hm
    have := this o ho
    simp at this
  | some n =>
    obtain ⟨hn, h1, _⟩ := List.findIdx?_eq_some_iff_getElem.1 h
    simp only [Option.isNone_some]
    symm; rw [decide_eq_false_iff_not]
    intro hm
    exact hm (List.mem_map.2 ⟨l[n], List.getElem_mem hn, by simpa using h1⟩)
theorem rightGo_iff (l : List Od) : ∀ n, n ≤ l.length → (rightGo l n = true ↔ (∀ o ∈ l.take n, mayB o = true) ∧ ((l.take n).map (·.id)).Nodup)
  | 0, _ => by simp [rightGo]
  | n + 1, h => by
    have ih := rightGo_iff l n (by omega)
    have hn : l[n]? = some l[n] := List.getElem?_eq_getElem (by omega)
    rw [rightGo_eq, List.range_succ, List.all_append, ← rightGo_eq, Bool.and_eq_true, ih, take_next hn]
    simp only [List.all_cons, List.all_nil, Bool.and_true, okAt, hn, placeF_isNone, Bool.and_eq_true, decide_eq_true_eq, List.map_append, List.map_cons, List.map_nil, List.nodup_append, List.mem_append, List.mem_singleton]
    constructor
    · rintro ⟨⟨h1, h2⟩, h3, h4⟩
      refine ⟨fun o ho => ?_, h2, by simp, ?_⟩
      · rcases ho with ho | rfl
        · exact h1 o ho
        · exact h3
      · intro a ha b hb e
        subst hb; subst e
        exact h4 ha
    · rintro ⟨h1, h2, _, h4⟩
      refine ⟨⟨fun o ho => h1 o (.inl ho), h2⟩, h1 _ (.inr rfl), fun hm => h4 _ hm _ (by simp) rfl⟩
theorem rightO_iff {l : List Od} : rightO l = true ↔ l.length ≤ 64 ∧ (∀ o ∈ l, mayB o = true) ∧ (l.map (·.id)).Nodup := by
  unfold rightO
  rw [Bool.and_eq_true, decide_eq_true_eq, rightGo_iff l l.length (Nat.le_refl _), List.take_length]
theorem rightO_snoc {l : List Od} {o : Od} (h : rightO l = true) (h1 : mayB o = true) (h2 : placeF l o.id = none) (h3 : l.length < 64) : rightO (l ++ [o]) = true := by
  rw [rightO_iff] at h ⊢
  have h4 : o.id ∉ l.map (·.id) := by
    have : (placeF l o.id).isNone = true := by rw [h2]; rfl
    rw [placeF_isNone] at this; simpa using this
  refine ⟨by simp; omega, fun p hp => ?_, ?_⟩
  · rcases List.mem_append.1 hp with hp | hp
    · exact h.2.1 p hp
    · rw [List.mem_singleton.1 hp]; exact h1
  · rw [List.map_append, List.nodup_append]
    refine ⟨h.2.2, by simp, fun a ha b hb e => ?_⟩
    simp only [List.map_cons, List.map_nil, List.mem_singleton] at hb
    subst hb; subst e; exact h4 ha
theorem map_set_same {α β : Type} {f : α → β} {l : List α} {n : Nat} {x y : α} (h : l[n]? = some x) (e : f y = f x) : (l.set n y).map f = l.map f := by
  rw [List.map_set, e]
  apply List.ext_getElem?
  intro i
  rw [List.getElem?_set]
  split
  · rename_i hi; subst hi
    have := (List.getElem?_eq_some_iff.1 h).1
    have h2 := (List.getElem?_eq_some_iff.1 h).2
    simp [this, h2]
  · rfl
theorem rightO_set {l : List Od} {n : Nat} {o o' : Od} (h : rightO l = true) (hn : l[n]? = some o) (h1 : mayB o' = true) (h2 : o'.id = o.id) : rightO (l.set n o') = true := by
  rw [rightO_iff] at h ⊢
  refine ⟨by simpa using h.1, fun p hp => ?_, ?_⟩
  · rcases List.mem_or_eq_of_mem_set hp with hp | rfl
    · exact h.2.1 p hp
    · exact h1
  · rw [map_set_same (f := (·.id)) hn h2]; exact h.2.2
theorem may_done {o : Od} {d : Int} {b : Bool} (h : mayB o = true) (h1 : 0 ≤ d) (h2 : d ≤ o.qty) : mayB ⟨o.id, o.acc, o.sym, o.buy, o.qty, o.price, d, b⟩ = true := by
  simp only [mayB, Bool.and_eq_true, decide_eq_true_eq] at h ⊢
  simp only [h, h1, h2, and_self]
theorem openF_get {l : List Od} {id : Bs} {n : Nat} (h : openF l id = some n) : ∃ o, l[n]? = some o ∧ o.id = id ∧ o.opn = true ∧ l.getD n zeroO = o := by
  unfold openF at h
  split at h
  · rename_i k hk
    obtain ⟨o, h1, h2, _⟩ := placeF_some hk
    rw [getD_of h1] at h
    split at h
    · simp only [Option.some.injEq] at h; subst h
      exact ⟨o, h1, h2, by assumption, getD_of h1⟩
    · simp at h
  · simp at h
theorem newO_right {l : List Od} {o : Od} (h : (newO l o).2 = 0) : rightO (newO l o).1 = true := by
  unfold newO at h ⊢
  split at h <;> rename_i h1
  · simp at h
  split at h <;> rename_i h2
  · simp at h
  split at h <;> rename_i h3
  · simp at h
  rw [if_neg h1, if_neg h2, if_neg h3]
  simp only [not_or, Bool.not_eq_false] at h1
  exact rightO_snoc h1.1 h1.2 (by cases hp : placeF l o.id with | none => rfl | some n => simp [hp] at h2) (by omega)
theorem closeO_right {l : List Od} {id : Bs} (h : (closeO l id).2 = 0) : rightO (closeO l id).1 = true := by
  unfold closeO at h ⊢
  split at h
  · simp at h
  · rename_i h1
    simp only [Bool.not_eq_false] at h1
    rw [if_neg (by simp [h1])]
    split at h
    · simp at h
    · rename_i n hn
      obtain ⟨o, h2, h3, h4, h5⟩ := openF_get hn
      simp only [hn, h5]
      have hm := (rightO_iff.1 h1).2.1 o (List.mem_of_getElem? h2)
      have hd : 0 ≤ o.done ∧ o.done ≤ o.qty := by simp only [mayB, Bool.and_eq_true, decide_eq_true_eq] at hm; omega
      exact rightO_set h1 h2 (may_done hm hd.1 hd.2) rfl
theorem fillO_right {l : List Od} {id : Bs} {q p : Int} (h : (fillO l id q p).2 = 0) : rightO (fillO l id q p).1 = true := by
  unfold fillO at h ⊢
  split at h
  · simp at h
  · rename_i h1
    simp only [Bool.not_eq_false] at h1
    rw [if_neg (by simp [h1])]
    split at h
    · simp at h
    · rename_i n hn
      obtain ⟨o, h2, h3, h4, h5⟩ := openF_get hn
      simp only [hn, h5] at h ⊢
      split at h <;> rename_i h6
      · simp at h
      split at h <;> rename_i h7
      · simp at h
      rw [if_neg h6, if_neg h7]
      have hm := (rightO_iff.1 h1).2.1 o (List.mem_of_getElem? h2)
      simp only [not_or] at h6
      have hr := fill_room (q := q) hm (by omega) (by omega)
      have hl : leftF o ≤ o.qty - o.done := by unfold leftF; split <;> simp only [mayB, Bool.and_eq_true, decide_eq_true_eq] at hm <;> omega
      exact rightO_set h1 h2 (may_done hm (by omega) (by omega)) rfl
theorem changeO_right {l : List Od} {a b : Bs} {q p : Int} (h : (changeO l a b q p).2 = 0) : rightO (changeO l a b q p).1 = true := by
  unfold changeO at h ⊢
  split at h
  · simp at h
  · rename_i h1
    simp only [Bool.not_eq_false] at h1
    rw [if_neg (by simp [h1])]
    split at h
    · simp at h
    · rename_i n hn
      obtain ⟨o, h2, h3, h4, h5⟩ := openF_get hn
      simp only [hn, h5] at h ⊢
      split at h <;> rename_i h6
      · simp at h
      split at h <;> rename_i h7
      · simp at h
      split at h <;> rename_i h8
      · simp at h
      rw [if_neg h6, if_neg h7, if_neg h8]
      have hm := (rightO_iff.1 h1).2.1 o (List.mem_of_getElem? h2)
      have hd : 0 ≤ o.done ∧ o.done ≤ o.qty := by simp only [mayB, Bool.and_eq_true, decide_eq_true_eq] at hm; omega
      have hs := rightO_set (o' := ⟨o.id, o.acc, o.sym, o.buy, o.qty, o.price, o.done, false⟩) h1 h2 (may_done hm hd.1 hd.2) rfl
      refine rightO_snoc hs (by simpa using h6) ?_ (by simpa using h8)
      have h9 : (placeF l b).isNone = true := by cases hp : placeF l b with | none => rfl | some n => simp [hp] at h7
      rw [placeF_isNone] at h9
      have h10 : (placeF (l.set n ⟨o.id, o.acc, o.sym, o.buy, o.qty, o.price, o.done, false⟩) b).isNone = true := by
        rw [placeF_isNone, map_set_same (f := fun o : Od => o.id) (y := ⟨o.id, o.acc, o.sym, o.buy, o.qty, o.price, o.done, false⟩) h2 rfl]; exact h9
      simpa using h10
end Go.Bk

/- What an execution does to a book, case by case; a book stays right. No program. -/
set_option linter.unusedVariables false
set_option linter.unusedSimpArgs false
namespace Go.Bk
theorem atF_get {l : List Dn} {id : Bs} {n : Nat} (h : atF l id = some n) : ∃ f, l[n]? = some f ∧ f.id = id ∧ l.getD n zeroD = f := by
  unfold atF at h
  obtain ⟨hn, h1, _⟩ := List.findIdx?_eq_some_iff_getElem.1 h
  have := List.getElem?_eq_getElem hn
  exact ⟨l[n], this, by simpa using h1, getDD this⟩
theorem amendF_wrong {b : Bk} {x : Ex} (h : (amendF b x).2 ≠ 0) : (amendF b x).1 = b ∧ 1 ≤ (amendF b x).2 ∧ (amendF b x).2 ≤ 6 := by
  revert h
  unfold amendF
  cases atF b.fills x.ref with
  | none => intro _; simp
  | some n =>
    simp only
    repeat' split
    all_goals simp
theorem fillF_wrong {b : Bk} {x : Ex} (h : (fillF b x).2 ≠ 0) : (fillF b x).1 = b ∧ 1 ≤ (fillF b x).2 ∧ (fillF b x).2 ≤ 6 := by
  unfold fillF at h ⊢
  simp only at h ⊢
  repeat' split
  all_goals simp_all
theorem replaceF_wrong {b : Bk} {x : Ex} (h : (replaceF b x).2 ≠ 0) : (replaceF b x).1 = b ∧ 1 ≤ (replaceF b x).2 ∧ (replaceF b x).2 ≤ 6 := by
  unfold replaceF at h ⊢
  simp only at h ⊢
  repeat' split
  all_goals simp_all
theorem applyF_wrong {b : Bk} {x : Ex} (h : (applyF b x).2 ≠ 0) : (applyF b x).1 = b ∧ 1 ≤ (applyF b x).2 ∧ (applyF b x).2 ≤ 6 := by
  by_cases h0 : x.time < b.clock
  · unfold applyF; rw [if_pos h0]; simp
  · by_cases h1 : x.kind = 1
    · unfold applyF at h ⊢; rw [if_neg h0, if_pos h1] at h ⊢
      simp only at h ⊢
      split at h <;> simp_all
    · by_cases h7 : x.kind = 7 ∨ x.kind = 8
      · have e : applyF b x = amendF b x := by unfold applyF; rw [if_neg h0, if_neg h1, if_pos h7]
        rw [e] at h ⊢; exact amendF_wrong h
      · unfold applyF at h ⊢; rw [if_neg h0, if_neg h1, if_neg h7] at h ⊢
        simp only at h ⊢
        generalize findF b.orders (if x.kind = 4 then x.ref else x.ord) = o at h ⊢
        split at h <;> rename_i g1
        · rw [if_pos g1]; simp
        · rw [if_neg g1]
          split at h <;> rename_i g2
          · rw [if_pos g2]; simp
          · rw [if_neg g2]
            split at h <;> rename_i g3
            · rw [if_pos g3]; exact fillF_wrong h
            · rw [if_neg g3]
              split at h <;> rename_i g4
              · rw [if_pos g4]; exact replaceF_wrong h
              · rw [if_neg g4]
                split at h <;> simp_all
/-- What an execution that is all right does. -/
inductive Does (b : Bk) (x : Ex) : Bk → Prop
  | opens (hk : x.kind = 1) (h : (newO b.orders (orderOf x)).2 = 0) : Does b x { b with orders := (newO b.orders (orderOf x)).1 }
  | busts (hk : x.kind = 7) (n : Nat) (f : Dn) (hn : b.fills[n]? = some f) (hid : f.id = x.ref) (hl : f.live = true) (ht : x.time - f.time ≤ 10) (ho : f.ord = x.ord) (ha : f.acc = x.acc) (hs : f.sym = x.sym) (hb : f.buy = x.buy) : Does b x { b with fills := b.fills.set n { f with live := false } }
  | corrects (hk : x.kind = 8) (n : Nat) (f : Dn) (hn : b.fills[n]? = some f) (hid : f.id = x.ref) (hl : f.live = true) (ht : x.time - f.time ≤ 10) (ho : f.ord = x.ord) (ha : f.acc = x.acc) (hs : f.sym = x.sym) (hb : f.buy = x.buy) (hq : x.qty ≤ f.qty) (hf : (findF b.orders f.ord).2 = true) (hp : fairF { (findF b.orders f.ord).1 with buy := f.buy } x.price = true) : Does b x { b with fills := b.fills.set n { f with qty := x.qty, price := x.price } }
  | fills (hk : x.kind = 2) (h : (fillO b.orders x.ord x.qty x.price).2 = 0) (hf : (findF b.orders x.ord).2 = true) (ho : (findF b.orders x.ord).1.opn = true) (ha : (findF b.orders x.ord).1.acc = x.acc) (hs : (findF b.orders x.ord).1.sym = x.sym) (hb : (findF b.orders x.ord).1.buy = x.buy) : Does b x { b with orders := (fillO b.orders x.ord x.qty x.price).1, fills := b.fills ++ [doneOf x] }
  | changes (hk : x.kind = 4) (h : (changeO b.orders x.ref x.ord x.qty x.price).2 = 0) (hf : (findF b.orders x.ref).2 = true) (ho : (findF b.orders x.ref).1.opn = true) (ha : (findF b.orders x.ref).1.acc = x.acc) (hs : (findF b.orders x.ref).1.sym = x.sym) (hb : (findF b.orders x.ref).1.buy = x.buy) : Does b x { b with orders := (changeO b.orders x.ref x.ord x.qty x.price).1 }
  | closes (hk : ¬ x.kind = 1 ∧ ¬ x.kind = 2 ∧ ¬ x.kind = 4 ∧ ¬ x.kind = 7 ∧ ¬ x.kind = 8) (h : (closeO b.orders x.ord).2 = 0) (hf : (findF b.orders x.ord).2 = true) (ho : (findF b.orders x.ord).1.opn = true) (ha : (findF b.orders x.ord).1.acc = x.acc) (hs : (findF b.orders x.ord).1.sym = x.sym) (hb : (findF b.orders x.ord).1.buy = x.buy) : Does b x { b with orders := (closeO b.orders x.ord).1 }
theorem applyF_does {b : Bk} {x : Ex} (h : (applyF b x).2 = 0) : b.clock ≤ x.time ∧ Does b x (applyF b x).1 := by
  by_cases h0 : x.time < b.clock
  · unfold applyF at h; rw [if_pos h0] at h; simp at h
  refine ⟨by omega, ?_⟩
  by_cases h1 : x.kind = 1
  · unfold applyF at h ⊢; rw [if_neg h0, if_pos h1] at h ⊢
    simp only at h ⊢
    split at h <;> rename_i g
    · rw [if_pos g]; exact .opens h1 g
    · simp at h
  by_cases h7 : x.kind = 7 ∨ x.kind = 8
  · have e : applyF b x = amendF b x := by unfold applyF; rw [if_neg h0, if_neg h1, if_pos h7]
    rw [e] at h ⊢
    unfold amendF at h ⊢
    cases hn : atF b.fills x.ref with
    | none => rw [hn] at h; simp at h
    | some n =>
      rw [hn] at h
      obtain ⟨f, g1, g2, g3⟩ := atF_get hn
      simp only [g3] at h ⊢
      split at h <;> rename_i k1
      · simp at h
      split at h <;> rename_i k2
      · simp at h
      simp only [not_or, Bool.not_eq_false, Int.not_lt, ne_eq, Decidable.not_not] at k1 k2
      split at h <;> rename_i k3
      · rw [if_neg (by simp [k1]), if_neg (by simp [k2]), if_pos k3]
        exact .busts k3 n f g1 g2 k1.1 k1.2 k2.1 k2.2.1 k2.2.2.1 k2.2.2.2
      · split at h <;> rename_i k4
        · simp at h
        split at h <;> rename_i k5
        · simp at h
        rw [if_neg (by simp [k1]), if_neg (by simp [k2]), if_neg k3, if_neg k4, if_neg k5]
        simp only [not_or, Bool.not_eq_false] at k5
        exact .corrects (by omega) n f g1 g2 k1.1 k1.2 k2.1 k2.2.1 k2.2.2.1 k2.2.2.2 (by omega) k5.1 k5.2
  · unfold applyF at h ⊢; rw [if_neg h0, if_neg h1, if_neg h7] at h ⊢
    simp only at h ⊢
    generalize hid : (if x.kind = 4 then x.ref else x.ord) = id at h ⊢
    split at h <;> rename_i g1
    · simp at h
    split at h <;> rename_i g2
    · simp at h
    rw [if_neg g1, if_neg g2]
    simp only [not_or, Bool.not_eq_false, ne_eq, Decidable.not_not] at g1 g2
    split at h <;> rename_i g3
    · rw [if_pos g3]
      rw [if_neg (by omega)] at hid
      subst hid
      unfold fillF at h ⊢
      simp only at h ⊢
      split at h <;> rename_i g5
      · rw [if_pos g5]; exact .fills g3 g5 g1.1 g1.2 g2.1 g2.2.1 g2.2.2
      · (repeat' split at h) <;> simp at h
    · rw [if_neg g3]
      split at h <;> rename_i g4
      · rw [if_pos g4]
        rw [if_pos g4] at hid
        subst hid
        unfold replaceF at h ⊢
        simp only at h ⊢
        split at h <;> rename_i g5
        · rw [if_pos g5]; exact .changes g4 g5 g1.1 g1.2 g2.1 g2.2.1 g2.2.2
        · (repeat' split at h) <;> simp at h
      · rw [if_neg g4]
        rw [if_neg g4] at hid
        subst hid
        split at h <;> rename_i g5
        · rw [if_pos g5]; exact .closes ⟨h1, g3, g4, fun e => h7 (.inl e), fun e => h7 (.inr e)⟩ g5 g1.1 g1.2 g2.1 g2.2.1 g2.2.2
        · simp at h
end Go.Bk

namespace Go.Bk
theorem fillB_later {b c : Bk} {f : Dn} (h : fillB b f = true) (h1 : b.clock ≤ c.clock) (h2 : ∀ s ∈ b.ids, s ∈ c.ids) : fillB c f = true := by
  simp only [fillB, Bool.and_eq_true, decide_eq_true_eq] at h ⊢
  exact ⟨⟨⟨⟨h.1.1.1.1, h.1.1.1.2⟩, h.1.1.2⟩, by omega⟩, h2 _ h.2⟩
theorem fillB_set {b : Bk} {f g : Dn} (h : fillB b f = true) (hid : g.id = f.id) (ht : g.time = f.time) (hq : smallB g.qty = true) (hp : smallB g.price = true) : fillB b g = true := by
  simp only [fillB, Bool.and_eq_true, decide_eq_true_eq] at h ⊢
  rw [hid, ht]
  exact ⟨⟨⟨⟨hq, hp⟩, h.1.1.2⟩, h.1.2⟩, h.2⟩
theorem exec_small {x : Ex} (h : execB x = true) : smallB x.qty = true ∧ smallB x.price = true ∧ 0 ≤ x.time ∧ x.time ≤ 4611686018427387904 := by
  simp only [execB, whenB, Bool.and_eq_true, decide_eq_true_eq] at h
  exact ⟨h.1.1.2, h.1.2, h.2⟩
/-- A right book, in words. -/
theorem rightBk_iff {b : Bk} : rightBk b = true ↔ (rightO b.orders = true ∧ b.fills.length ≤ 256 ∧ b.ids.length ≤ 256 ∧ 0 ≤ b.clock ∧ b.clock ≤ 4611686018427387904 ∧ 0 ≤ b.bad ∧ b.bad ≤ 6) ∧ b.ids.Nodup ∧ (∀ f ∈ b.fills, fillB b f = true) ∧ (b.fills.map (·.id)).Nodup := by
  simp only [rightBk, headB, Bool.and_eq_true, decide_eq_true_eq, List.all_eq_true]
  constructor
  · rintro ⟨⟨⟨h1, h2⟩, h3⟩, h4⟩; exact ⟨⟨h1.1.1.1.1.1.1, h1.1.1.1.1.1.2, h1.1.1.1.1.2, h1.1.1.1.2, h1.1.1.2, h1.1.2, h1.2⟩, h2, h3, h4⟩
  · rintro ⟨⟨a, b, c, d, e, f, g⟩, h2, h3, h4⟩; exact ⟨⟨⟨⟨⟨⟨⟨⟨⟨a, b⟩, c⟩, d⟩, e⟩, f⟩, g⟩, h2⟩, h3⟩, h4⟩
theorem nodup_sub {α : Type} [DecidableEq α] : ∀ {l m : List α}, l.Nodup → (∀ x ∈ l, x ∈ m) → l.length ≤ m.length
  | [], m, _, _ => Nat.zero_le _
  | x :: l, m, h, hs => by
    rw [List.nodup_cons] at h
    have hx := hs x (List.mem_cons_self ..)
    have ih := nodup_sub (m := m.erase x) h.2 fun y hy => (List.mem_erase_of_ne (fun e => h.1 (by rw [← e]; exact hy))).2 (hs y (List.mem_cons_of_mem _ hy))
    rw [List.length_erase_of_mem hx] at ih
    have := List.length_pos_of_mem hx
    simp only [List.length_cons]; omega
theorem nodup_len {l : List Dn} {ids : List Bs} (h : (l.map (·.id)).Nodup) (hs : ∀ f ∈ l, f.id ∈ ids) : l.length ≤ ids.length := by
  have := nodup_sub (m := ids) h fun a ha => by
    obtain ⟨f, hf, rfl⟩ := List.mem_map.1 ha
    exact hs f hf
  simpa using this
/-- An execution that is told keeps a book right. -/
theorem takeF_right {b : Bk} {x : Ex} (h : rightBk b = true) (hx : execB x = true) : rightBk (takeF b x).1 = true := by
  unfold takeF
  split
  · exact h
  rename_i h0
  split
  · exact h
  rename_i h1
  simp only [not_or, Decidable.not_not, ne_eq] at h0
  have h1' : x.id ∉ b.ids := fun hm => h1 (hasF_iff.2 hm)
  obtain ⟨⟨a1, a2, a3, a4, a5, a6, a7⟩, h2, h3, h4⟩ := rightBk_iff.1 h
  have hn : (b.ids ++ [x.id]).Nodup := by
    rw [List.nodup_append]
    refine ⟨h2, by simp, fun a ha c hc e => ?_⟩
    simp only [List.mem_singleton] at hc
    subst hc; subst e; exact h1' ha
  have hlen : (b.ids ++ [x.id]).length ≤ 256 := by simp; omega
  have hsub : ∀ s ∈ b.ids, s ∈ b.ids ++ [x.id] := fun s hs => List.mem_append_left _ hs
  simp only
  split
  · rename_i hw
    have ⟨e1, e2, e3⟩ := applyF_wrong hw
    rw [e1]
    exact rightBk_iff.2 ⟨⟨a1, a2, hlen, a4, a5, Int.le_trans (by decide) e2, e3⟩, hn, fun f hf => fillB_later (h3 f hf) (Int.le_refl _) hsub, h4⟩
  · rename_i hw
    simp only [Decidable.not_not, ne_eq] at hw
    have ⟨hc, hd⟩ := applyF_does hw
    have hx2 := exec_small hx
    have hc' : b.clock ≤ x.time := hc
    generalize (applyF { b with ids := b.ids ++ [x.id] } x).1 = c at hd
    have old : ∀ f ∈ b.fills, fillB ⟨b.orders, b.fills, b.ids ++ [x.id], x.time, b.bad⟩ f = true := fun f hf => fillB_later (h3 f hf) hc' hsub
    have side : ∀ (os : List Od) (fs : List Dn), rightO os = true → (∀ f ∈ fs, fillB ⟨b.orders, b.fills, b.ids ++ [x.id], x.time, b.bad⟩ f = true) → (fs.map (·.id)).Nodup → rightBk ⟨os, fs, b.ids ++ [x.id], x.time, b.bad⟩ = true := by
      intro os fs g1 g2 g3
      have g4 : fs.length ≤ (b.ids ++ [x.id]).length := nodup_len g3 fun f hf => by
        have := g2 f hf
        simp only [fillB, Bool.and_eq_true, decide_eq_true_eq] at this
        exact this.2
      exact rightBk_iff.2 ⟨⟨g1, Nat.le_trans g4 hlen, hlen, by show 0 ≤ x.time; omega, hx2.2.2.2, a6, a7⟩, hn, g2, g3⟩
    cases hd with
    | opens hk h => exact side _ _ (newO_right h) old h4
    | busts hk n f hn hid hl ht ho ha hs hb =>
      have hf := old f (List.mem_of_getElem? hn)
      refine side _ _ a1 (fun g hg => ?_) (by rw [map_set_same (f := fun f : Dn => f.id) hn]; exact h4; rfl)
      rcases List.mem_or_eq_of_mem_set hg with hg | rfl
      · exact old g hg
      · simp only [fillB, Bool.and_eq_true] at hf ⊢; exact hf
    | corrects hk n f hn hid hl ht ho ha hs hb hq hf hp =>
      have hf := old f (List.mem_of_getElem? hn)
      refine side _ _ a1 (fun g hg => ?_) (by rw [map_set_same (f := fun f : Dn => f.id) hn]; exact h4; rfl)
      rcases List.mem_or_eq_of_mem_set hg with hg | rfl
      · exact old g hg
      · exact fillB_set hf rfl rfl hx2.1 hx2.2.1
    | fills hk h hf ho ha hs hb =>
      refine side _ _ (fillO_right h) (fun g hg => ?_) ?_
      · rcases List.mem_append.1 hg with hg | hg
        · exact old g hg
        · rw [List.mem_singleton.1 hg]
          simp [fillB, doneOf, hx2.1, hx2.2.1, hx2.2.2.1]
      · rw [List.map_append, List.nodup_append]
        refine ⟨h4, by simp, fun a ha c hc e => ?_⟩
        simp only [List.map_cons, List.map_nil, doneOf, List.mem_singleton] at hc
        subst hc; subst e
        obtain ⟨f, hf, e⟩ := List.mem_map.1 ha
        have := h3 f hf
        simp only [fillB, Bool.and_eq_true, decide_eq_true_eq] at this
        exact h1' (e ▸ this.2)
    | changes hk h hf ho ha hs hb => exact side _ _ (changeO_right h) old h4
    | closes hk h hf ho ha hs hb => exact side _ _ (closeO_right h) old h4
theorem empty_right : rightBk emptyB = true := by decide
theorem allF_right (l : List Ex) : rightBk (allF l) = true := by
  have : ∀ (l : List Ex) (b : Bk), rightBk b = true → rightBk (l.foldl stepF b) = true := by
    intro l
    induction l with
    | nil => intro b h; exact h
    | cons x l ih =>
      intro b h
      refine ih _ ?_
      unfold stepF
      split
      · exact takeF_right h (by assumption)
      · exact h
  exact this l _ empty_right
theorem comeF_right {b : Bk} {x : Ex} (h : rightBk b = true) : rightBk (comeF b x).1 = true := by
  unfold comeF
  split
  · rename_i hx; simp only [Bool.and_eq_true] at hx; exact takeF_right h hx.2
  · exact h
end Go.Bk

/- What BookStays asks of one execution. No program. -/
set_option linter.unusedVariables false
set_option linter.unusedSimpArgs false
namespace Go.Bk
theorem does_same {b c : Bk} {x : Ex} (h : Does b x c) : c.ids = b.ids ∧ c.clock = b.clock ∧ c.bad = b.bad := by cases h <;> exact ⟨rfl, rfl, rfl⟩
theorem take_cases {b : Bk} {x : Ex} (hb : b.bad = 0) (hl : b.ids.length < 256) (hx : x.id ∉ b.ids) :
    (∃ e, takeF b x = (⟨b.orders, b.fills, b.ids ++ [x.id], b.clock, e⟩, 3) ∧ 1 ≤ e ∧ e ≤ 6) ∨
    (∃ c, takeF b x = (⟨c.orders, c.fills, b.ids ++ [x.id], x.time, 0⟩, 1) ∧ b.clock ≤ x.time ∧ Does ⟨b.orders, b.fills, b.ids ++ [x.id], b.clock, b.bad⟩ x c) := by
  unfold takeF
  rw [if_neg (by omega), if_neg (by rw [hasF_iff]; exact hx)]
  simp only
  by_cases h : (applyF ⟨b.orders, b.fills, b.ids ++ [x.id], b.clock, b.bad⟩ x).2 = 0
  · right
    have ⟨h1, h2⟩ := applyF_does h
    have ⟨h3, h4, h5⟩ := does_same h2
    refine ⟨_, ?_, h1, h2⟩
    rw [if_neg (by simpa using h)]
    rw [h3, h5, hb]
  · left
    have ⟨h1, h2, h3⟩ := applyF_wrong h
    refine ⟨_, ?_, h2, h3⟩
    rw [if_pos h, h1]
theorem stays_facts {k : Bk} {x : Ex} (hr : rightBk k = true) (hl : k.ids.length < 256) :
    (execB x = false → comeF k x = (k, 0)) ∧ (execB x = true → k.bad ≠ 0 → comeF k x = (k, 4)) ∧ (execB x = true → k.bad = 0 → x.id ∈ k.ids → comeF k x = (k, 2)) ∧
    (execB x = true → k.bad = 0 → x.id ∉ k.ids → ((comeF k x).2 = 3 ∧ 1 ≤ (comeF k x).1.bad ∧ (comeF k x).1.bad ≤ 6 ∧ (⟨(comeF k x).1.orders, (comeF k x).1.fills, k.ids, (comeF k x).1.clock, 0⟩ : Bk) = k ∨
      (comeF k x).2 = 1 ∧ (comeF k x).1.bad = 0 ∧ (comeF k x).1.clock = x.time ∧ k.clock ≤ x.time) ∧ (comeF k x).1.ids.length = k.ids.length + 1) ∧ (comeF k x).1.ids.length ≤ k.ids.length + 1 := by
  have hc : execB x = true → comeF k x = takeF k x := fun h => by unfold comeF; simp [hr, h]
  have h0 : execB x = false → comeF k x = (k, 0) := fun h => by unfold comeF; simp [h]
  have h1 : execB x = true → k.bad ≠ 0 → comeF k x = (k, 4) := fun h hb => by rw [hc h]; unfold takeF; rw [if_pos (.inl hb)]
  have h2 : execB x = true → k.bad = 0 → x.id ∈ k.ids → comeF k x = (k, 2) := fun h hb hm => by rw [hc h]; unfold takeF; rw [if_neg (by omega), if_pos (hasF_iff.2 hm)]
  have h3 : execB x = true → k.bad = 0 → x.id ∉ k.ids → ((comeF k x).2 = 3 ∧ 1 ≤ (comeF k x).1.bad ∧ (comeF k x).1.bad ≤ 6 ∧ (⟨(comeF k x).1.orders, (comeF k x).1.fills, k.ids, (comeF k x).1.clock, 0⟩ : Bk) = k ∨
      (comeF k x).2 = 1 ∧ (comeF k x).1.bad = 0 ∧ (comeF k x).1.clock = x.time ∧ k.clock ≤ x.time) ∧ (comeF k x).1.ids.length = k.ids.length + 1 := fun h hb hm => by
    rw [hc h]
    rcases take_cases hb hl hm with ⟨e, h4, h5, h6⟩ | ⟨c, h4, h5, _⟩
    · rw [h4]; refine ⟨.inl ⟨rfl, h5, h6, ?_⟩, by simp⟩
      cases k; simp only at hb; subst hb; rfl
    · rw [h4]; exact ⟨.inr ⟨rfl, rfl, rfl, h5⟩, by simp⟩
  refine ⟨h0, h1, h2, h3, ?_⟩
  cases hx : execB x with
  | false => rw [h0 hx]; simp
  | true =>
    by_cases hb : k.bad = 0
    · by_cases hm : x.id ∈ k.ids
      · rw [h2 hx hb hm]; simp
      · rw [(h3 hx hb hm).2]; exact Nat.le_refl _
    · rw [h1 hx hb]; simp
end Go.Bk
