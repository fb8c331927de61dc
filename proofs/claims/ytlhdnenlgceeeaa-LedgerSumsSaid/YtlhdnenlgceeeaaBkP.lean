/- The document's way with a book: names that are there once, an execution that is applied. No program. -/
import Derived.Test.YtlhdnenlgceeeaaBkL
set_option linter.unusedVariables false
set_option linter.unusedSimpArgs false
namespace Go.Bk
theorem idI_once {l : List Bs} {i : Nat} {x : Bs} (h : l[i]? = some x) : idI l x = i ↔ x ∉ l.take i := by
  rw [idI_idx', idxI_at h (by simp)]
  constructor
  · intro h1 h2; simpa using h1 x h2
  · intro h1 y hy; simp; rintro rfl; exact h1 hy
theorem atI_once {l : List Dn} {i : Nat} {f : Dn} (h : l[i]? = some f) : atI l f.id = i ↔ f.id ∉ (l.take i).map (·.id) := by
  rw [atI_idx, idxI_at h (by simp)]
  constructor
  · intro h1 h2
    obtain ⟨g, hg, e⟩ := List.mem_map.1 h2
    have := h1 g hg
    simp [e] at this
  · intro h1 y hy; simp; intro e; exact h1 (List.mem_map.2 ⟨y, hy, e⟩)
theorem nodup_take_snoc {α : Type} {l : List α} {x : α} (h : l.Nodup) (hx : x ∉ l) : (l ++ [x]).Nodup := by
  rw [List.nodup_append]
  exact ⟨h, by simp, fun a ha b hb => by rw [List.mem_singleton.1 hb]; rintro rfl; exact hx ha⟩
theorem once_next {l : List Bs} {i : Nat} {x : Bs} (h : l[i]? = some x) (hn : (l.take i).Nodup) (hi : idI l x = i) : (l.take (i + 1)).Nodup := by
  rw [take_next h]; exact nodup_take_snoc hn ((idI_once h).1 hi)
theorem once_not {l : List Bs} {i : Nat} {x : Bs} (h : l[i]? = some x) (hi : ¬ idI l x = i) : ¬ l.Nodup := by
  intro hn
  rw [idI_once h, Classical.not_not] at hi
  obtain ⟨hl, e⟩ := List.getElem?_eq_some_iff.1 h
  rw [← List.take_append_drop i l, List.nodup_append] at hn
  refine hn.2.2 x hi x ?_ rfl
  rw [drop_cons h]; simp
theorem fonce_next {l : List Dn} {i : Nat} {f : Dn} (h : l[i]? = some f) (hn : ((l.take i).map (·.id)).Nodup) (hi : atI l f.id = i) : ((l.take (i + 1)).map (·.id)).Nodup := by
  rw [take_next h, List.map_append]; exact nodup_take_snoc hn ((atI_once h).1 hi)
theorem fonce_not {l : List Dn} {i : Nat} {f : Dn} (h : l[i]? = some f) (hi : ¬ atI l f.id = i) : ¬ (l.map (·.id)).Nodup := by
  intro hn
  rw [atI_once h, Classical.not_not] at hi
  rw [← List.take_append_drop i l, List.map_append, List.nodup_append] at hn
  refine hn.2.2 _ hi _ ?_ rfl
  rw [drop_cons h]; simp
theorem idI_mem {l : List Bs} {x : Bs} : idI l x < 0 ↔ x ∉ l := by
  rw [idI_idx', idxI_lt]
  constructor
  · intro h hx; simpa using h x hx
  · intro h y hy; simp; rintro rfl; exact h hy
theorem right_n1 {b : Bk} (h : headB b = false) : rightBk b = false := by simp [rightBk, h]
theorem right_n2 {b : Bk} (h : ¬ b.ids.Nodup) : rightBk b = false := by simp [rightBk, h]
theorem right_n3 {b : Bk} {i : Nat} {f : Dn} (hb : b.fills[i]? = some f) (h : fillB b f = false) : rightBk b = false := by
  have : b.fills.all (fillB b) = false := by
    rw [List.all_eq_false]; exact ⟨f, List.mem_of_getElem? hb, by simp [h]⟩
  unfold rightBk; rw [this]; simp
theorem right_n4 {b : Bk} (h : ¬ (b.fills.map (·.id)).Nodup) : rightBk b = false := by simp [rightBk, h]
theorem right_y {b : Bk} (h1 : headB b = true) (h2 : b.ids.Nodup) (h3 : b.fills.all (fillB b) = true) (h4 : (b.fills.map (·.id)).Nodup) : rightBk b = true := by
  unfold rightBk; rw [h1, h3]; simp [h2, h4]
theorem amend_clock (b : Bk) (x : Ex) (c : Int) : amendF { b with clock := c } x = ({ (amendF b x).1 with clock := c }, (amendF b x).2) := by
  unfold amendF
  dsimp only
  split
  · rfl
  · repeat' split
    all_goals rfl
def errR (e : Int) : Int := if e = 1 then 4 else if e = 9 then 5 else 2
def applyR (b : Bk) (x : Ex) : Bk × Int :=
  if x.time < b.clock then (b, 1)
  else if x.kind = 1 then (if (newO b.orders (orderOf x)).2 = 0 then (⟨(newO b.orders (orderOf x)).1, b.fills, b.ids, x.time, b.bad⟩, 0) else (⟨b.orders, b.fills, b.ids, x.time, b.bad⟩, 2))
  else if 6 < x.kind then amendF ⟨b.orders, b.fills, b.ids, x.time, b.bad⟩ x
  else match openF b.orders (if x.kind = 4 then x.ref else x.ord) with
  | none => (⟨b.orders, b.fills, b.ids, x.time, b.bad⟩, 2)
  | some n =>
    if (b.orders.getD n zeroO).acc ≠ x.acc ∨ (b.orders.getD n zeroO).sym ≠ x.sym ∨ (b.orders.getD n zeroO).buy ≠ x.buy then (⟨b.orders, b.fills, b.ids, x.time, b.bad⟩, 3)
    else if x.kind = 2 then (if (fillO b.orders x.ord x.qty x.price).2 = 0 then (⟨(fillO b.orders x.ord x.qty x.price).1, b.fills ++ [doneOf x], b.ids, x.time, b.bad⟩, 0) else (⟨b.orders, b.fills ++ [doneOf x], b.ids, x.time, b.bad⟩, errR (fillO b.orders x.ord x.qty x.price).2))
    else if x.kind = 4 then (if (changeO b.orders x.ref x.ord x.qty x.price).2 = 0 then (⟨(changeO b.orders x.ref x.ord x.qty x.price).1, b.fills, b.ids, x.time, b.bad⟩, 0) else (⟨b.orders, b.fills, b.ids, x.time, b.bad⟩, errR (changeO b.orders x.ref x.ord x.qty x.price).2))
    else (if (closeO b.orders x.ord).2 = 0 then (⟨(closeO b.orders x.ord).1, b.fills, b.ids, x.time, b.bad⟩, 0) else (⟨b.orders, b.fills, b.ids, x.time, b.bad⟩, errR (closeO b.orders x.ord).2))
theorem find_open {l : List Od} {id : Bs} (h : rightO l = true) : ((findF l id).2 = false ∨ (findF l id).1.opn = false) ↔ openF l id = none := by
  unfold findF openF
  rw [if_pos h]
  cases placeF l id with
  | none => simp
  | some n => simp only []; cases (l.getD n zeroO).opn <;> simp
theorem find_some {l : List Od} {id : Bs} {n : Nat} (h : rightO l = true) (h2 : openF l id = some n) : (findF l id).1 = l.getD n zeroO := by
  unfold openF at h2
  unfold findF
  rw [if_pos h]
  cases hp : placeF l id with
  | none => rw [hp] at h2; simp at h2
  | some k =>
    rw [hp] at h2; simp only [] at h2
    split at h2
    · simp only [Option.some.injEq] at h2; subst h2; rfl
    · simp at h2
theorem change_not9 {l : List Od} {a b : Bs} {q p : Int} : (changeO l a b q p).2 ≠ 9 := by
  unfold changeO
  repeat' split
  all_goals simp
  all_goals (repeat' split)
  all_goals simp
theorem applyR_spec {b : Bk} {x : Ex} (hr : rightO b.orders = true) (hk : 1 ≤ x.kind ∧ x.kind ≤ 8) : (applyR b x).2 = (applyF b x).2 ∧ ((applyF b x).2 = 0 → (applyR b x).1 = { (applyF b x).1 with clock := x.time }) := by
  unfold applyR applyF
  by_cases h1 : x.time < b.clock
  · rw [if_pos h1, if_pos h1]; exact ⟨rfl, fun h => absurd h (by simp)⟩
  rw [if_neg h1, if_neg h1]
  by_cases h2 : x.kind = 1
  · rw [if_pos h2, if_pos h2]
    simp only []
    split
    · exact ⟨rfl, fun _ => rfl⟩
    · exact ⟨rfl, fun h => absurd h (by simp)⟩
  rw [if_neg h2, if_neg h2]
  by_cases h3 : 6 < x.kind
  · rw [if_pos h3, if_pos (show x.kind = 7 ∨ x.kind = 8 by omega)]
    rw [show (⟨b.orders, b.fills, b.ids, x.time, b.bad⟩ : Bk) = { b with clock := x.time } from rfl, amend_clock]; exact ⟨rfl, fun _ => rfl⟩
  rw [if_neg h3, if_neg (show ¬ (x.kind = 7 ∨ x.kind = 8) by omega)]
  simp only []
  cases ho : openF b.orders (if x.kind = 4 then x.ref else x.ord) with
  | none =>
    rw [if_pos ((find_open hr).2 ho)]; exact ⟨rfl, fun h => absurd h (by simp)⟩
  | some n =>
    have hfo : ¬ ((findF b.orders (if x.kind = 4 then x.ref else x.ord)).2 = false ∨ (findF b.orders (if x.kind = 4 then x.ref else x.ord)).1.opn = false) := fun h => by rw [(find_open hr).1 h] at ho; simp at ho
    simp only []
    rw [if_neg hfo, find_some hr ho]
    by_cases h4 : (b.orders.getD n zeroO).acc ≠ x.acc ∨ (b.orders.getD n zeroO).sym ≠ x.sym ∨ (b.orders.getD n zeroO).buy ≠ x.buy
    · rw [if_pos h4, if_pos h4]; exact ⟨rfl, fun h => absurd h (by simp)⟩
    rw [if_neg h4, if_neg h4]
    by_cases h5 : x.kind = 2
    · rw [if_pos h5, if_pos h5]
      unfold fillF
      simp only []
      split
      · exact ⟨rfl, fun _ => rfl⟩
      · unfold errR
        split
        · exact ⟨rfl, fun h => absurd h (by simp)⟩
        · split
          · exact ⟨rfl, fun h => absurd h (by simp)⟩
          · exact ⟨rfl, fun h => absurd h (by simp)⟩
    rw [if_neg h5, if_neg h5]
    by_cases h6 : x.kind = 4
    · rw [if_pos h6, if_pos h6]
      unfold replaceF
      simp only []
      split
      · exact ⟨rfl, fun _ => rfl⟩
      · unfold errR
        split
        · exact ⟨rfl, fun h => absurd h (by simp)⟩
        · rw [if_neg change_not9]; exact ⟨rfl, fun h => absurd h (by simp)⟩
    rw [if_neg h6, if_neg h6]
    rw [if_neg h6] at ho
    have hc : (closeO b.orders x.ord).2 = 0 := by unfold closeO; simp [hr, ho]
    rw [if_pos hc, if_pos hc]; exact ⟨rfl, fun _ => rfl⟩
theorem exec_kinds {x : Ex} (h : execB x = true) : 1 ≤ x.kind ∧ x.kind ≤ 8 := by
  apply Classical.byContradiction
  intro hn
  unfold execB at h
  rw [if_neg (by omega), if_neg (by omega)] at h
  simp at h
theorem hasF_idI {l : List Bs} {id : Bs} : hasF l id = decide (0 ≤ idI l id) := rfl
theorem take_c4 {b : Bk} {x : Ex} (h : b.bad ≠ 0 ∨ 256 ≤ b.ids.length) : takeF b x = (b, 4) := by unfold takeF; rw [if_pos h]
theorem take_c2 {b : Bk} {x : Ex} (h : ¬ (b.bad ≠ 0 ∨ 256 ≤ b.ids.length)) (h2 : 0 ≤ idI b.ids x.id) : takeF b x = (b, 2) := by unfold takeF; rw [if_neg h, hasF_idI, if_pos (by simpa using h2)]
theorem take_c3 {b : Bk} {x : Ex} (hr : rightO b.orders = true) (hk : 1 ≤ x.kind ∧ x.kind ≤ 8) (h : ¬ (b.bad ≠ 0 ∨ 256 ≤ b.ids.length)) (h2 : ¬ 0 ≤ idI b.ids x.id) (h3 : ¬ (applyR ⟨b.orders, b.fills, b.ids ++ [x.id], b.clock, b.bad⟩ x).2 = 0) :
    takeF b x = (⟨b.orders, b.fills, b.ids ++ [x.id], b.clock, (applyR ⟨b.orders, b.fills, b.ids ++ [x.id], b.clock, b.bad⟩ x).2⟩, 3) := by
  have hs := applyR_spec (b := ⟨b.orders, b.fills, b.ids ++ [x.id], b.clock, b.bad⟩) (x := x) hr hk
  rw [hs.1] at h3 ⊢
  have hw := applyF_wrong (b := ⟨b.orders, b.fills, b.ids ++ [x.id], b.clock, b.bad⟩) (x := x) h3
  unfold takeF; rw [if_neg h, hasF_idI, if_neg (by simpa using h2)]
  simp only []
  rw [if_pos h3, hw.1]
theorem take_c1 {b : Bk} {x : Ex} (hr : rightO b.orders = true) (hk : 1 ≤ x.kind ∧ x.kind ≤ 8) (h : ¬ (b.bad ≠ 0 ∨ 256 ≤ b.ids.length)) (h2 : ¬ 0 ≤ idI b.ids x.id) (h3 : (applyR ⟨b.orders, b.fills, b.ids ++ [x.id], b.clock, b.bad⟩ x).2 = 0) :
    takeF b x = ((applyR ⟨b.orders, b.fills, b.ids ++ [x.id], b.clock, b.bad⟩ x).1, 1) := by
  have hs := applyR_spec (b := ⟨b.orders, b.fills, b.ids ++ [x.id], b.clock, b.bad⟩) (x := x) hr hk
  rw [hs.1] at h3
  rw [hs.2 h3]
  unfold takeF; rw [if_neg h, hasF_idI, if_neg (by simpa using h2)]
  simp only []
  rw [if_neg (by simpa using h3)]
theorem come_fold {l : List Ex} {i : Nat} {x : Ex} {k : Bk} (hr : rightBk k = true) (h : l[i]? = some x) (hk : k = allF (l.take i)) : (comeF k x).1 = allF (l.take (i + 1)) := by
  rw [allF_eq, fold_next h, ← allF_eq, ← hk]
  unfold comeF stepF
  rw [hr]
  cases execB x <;> simp
end Go.Bk
