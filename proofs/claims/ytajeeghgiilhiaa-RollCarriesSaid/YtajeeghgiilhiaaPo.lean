/- Several texts of one chain, put together (BkP, BkQ, BkS, BkT). -/
import Derived.Test.YtajeeghgiilhiaaPn
import Derived.Test.YtajeeghgiilhiaaLc
/- The document's way with a book: names that are there once, an execution that is applied. No program. -/
set_option linter.unusedVariables false
set_option linter.unusedSimpArgs false
namespace Go.Bk
theorem idI_once {l : List Bs} {i : Nat} {x : Bs} (h : l[i]? = some x) : idI l x = i ↔ x ∉ l.take i := by
  rw [idI_idx', idxI_at h (by simp)]
  constructor
  · intro h1 h2; simpa using h1 x h2
  · intro h1 y hy; simp; rintro rfl; exact h1 hy
theorem atI_once {l : List Dn} {i : Nat} {f : Dn} (h : l[i]? = some f) : atI l f.id = i ↔ f.id ∉ (l.take i).map (·.id) := by
  rw [atI_idx, idxI_at h (by simp)]
  constructor
  · intro h1 h2
    obtain ⟨g, hg, e⟩ := List.mem_map.1 h2
    have := h1 g hg
    simp [e] at this
  · intro h1 y hy; simp; intro e; exact h1 (List.mem_map.2 ⟨y, hy, e⟩)
theorem nodup_take_snoc {α : Type} {l : List α} {x : α} (h : l.Nodup) (hx : x ∉ l) : (l ++ [x]).Nodup := by
  rw [List.nodup_append]
  exact ⟨h, by simp, fun a ha b hb => by rw [List.mem_singleton.1 hb]; rintro rfl; exact hx ha⟩
theorem once_next {l : List Bs} {i : Nat} {x : Bs} (h : l[i]? = some x) (hn : (l.take i).Nodup) (hi : idI l x = i) : (l.take (i + 1)).Nodup := by
  rw [take_next h]; exact nodup_take_snoc hn ((idI_once h).1 hi)
theorem once_not {l : List Bs} {i : Nat} {x : Bs} (h : l[i]? = some x) (hi : ¬ idI l x = i) : ¬ l.Nodup := by
  intro hn
  rw [idI_once h, Classical.not_not] at hi
  obtain ⟨hl, e⟩ := List.getElem?_eq_some_iff.1 h
  rw [← List.take_append_drop i l, List.nodup_append] at hn
  refine hn.2.2 x hi x ?_ rfl
  rw [drop_cons h]; simp
theorem fonce_next {l : List Dn} {i : Nat} {f : Dn} (h : l[i]? = some f) (hn : ((l.take i).map (·.id)).Nodup) (hi : atI l f.id = i) : ((l.take (i + 1)).map (·.id)).Nodup := by
  rw [take_next h, List.map_append]; exact nodup_take_snoc hn ((atI_once h).1 hi)
theorem fonce_not {l : List Dn} {i : Nat} {f : Dn} (h : l[i]? = some f) (hi : ¬ atI l f.id = i) : ¬ (l.map (·.id)).Nodup := by
  intro hn
  rw [atI_once h, Classical.not_not] at hi
  rw [← List.take_append_drop i l, List.map_append, List.nodup_append] at hn
  refine hn.2.2 _ hi _ ?_ rfl
  rw [drop_cons h]; simp
theorem idI_mem {l : List Bs} {x : Bs} : idI l x < 0 ↔ x ∉ l := by
  rw [idI_idx', idxI_lt]
  constructor
  · intro h hx; simpa using h x hx
  · intro h y hy; simp; rintro rfl; exact h hy
theorem right_n1 {b : Bk} (h : headB b = false) : rightBk b = false := by simp [rightBk, h]
theorem right_n2 {b : Bk} (h : ¬ b.ids.Nodup) : rightBk b = false := by simp [rightBk, h]
theorem right_n3 {b : Bk} {i : Nat} {f : Dn} (hb : b.fills[i]? = some f) (h : fillB b f = false) : rightBk b = false := by
  have : b.fills.all (fillB b) = false := by
    rw [List.all_eq_false]; exact ⟨f, List.mem_of_getElem? hb, by simp [h]⟩
  unfold rightBk; rw [this]; simp
theorem right_n4 {b : Bk} (h : ¬ (b.fills.map (·.id)).Nodup) : rightBk b = false := by simp [rightBk, h]
theorem right_y {b : Bk} (h1 : headB b = true) (h2 : b.ids.Nodup) (h3 : b.fills.all (fillB b) = true) (h4 : (b.fills.map (·.id)).Nodup) : rightBk b = true := by
  unfold rightBk; rw [h1, h3]; simp [h2, h4]
theorem amend_clock (b : Bk) (x : Ex) (c : Int) : amendF { b with clock := c } x = ({ (amendF b x).1 with clock := c }, (amendF b x).2) := by
  unfold amendF
  dsimp only
  split
  · rfl
  · repeat' split
    all_goals rfl
def errR (e : Int) : Int := if e = 1 then 4 else if e = 9 then 5 else 2
def applyR (b : Bk) (x : Ex) : Bk × Int :=
  if x.time < b.clock then (b, 1)
  else if x.kind = 1 then (if (newO b.orders (orderOf x)).2 = 0 then (⟨(newO b.orders (orderOf x)).1, b.fills, b.ids, x.time, b.bad⟩, 0) else (⟨b.orders, b.fills, b.ids, x.time, b.bad⟩, 2))
  else if 6 < x.kind then amendF ⟨b.orders, b.fills, b.ids, x.time, b.bad⟩ x
  else match openF b.orders (if x.kind = 4 then x.ref else x.ord) with
  | none => (⟨b.orders, b.fills, b.ids, x.time, b.bad⟩, 2)
  | some n =>
    if (b.orders.getD n zeroO).acc ≠ x.acc ∨ (b.orders.getD n zeroO).sym ≠ x.sym ∨ (b.orders.getD n zeroO).buy ≠ x.buy then (⟨b.orders, b.fills, b.ids, x.time, b.bad⟩, 3)
    else if x.kind = 2 then (if (fillO b.orders x.ord x.qty x.price).2 = 0 then (⟨(fillO b.orders x.ord x.qty x.price).1, b.fills ++ [doneOf x], b.ids, x.time, b.bad⟩, 0) else (⟨b.orders, b.fills ++ [doneOf x], b.ids, x.time, b.bad⟩, errR (fillO b.orders x.ord x.qty x.price).2))
    else if x.kind = 4 then (if (changeO b.orders x.ref x.ord x.qty x.price).2 = 0 then (⟨(changeO b.orders x.ref x.ord x.qty x.price).1, b.fills, b.ids, x.time, b.bad⟩, 0) else (⟨b.orders, b.fills, b.ids, x.time, b.bad⟩, errR (changeO b.orders x.ref x.ord x.qty x.price).2))
    else (if (closeO b.orders x.ord).2 = 0 then (⟨(closeO b.orders x.ord).1, b.fills, b.ids, x.time, b.bad⟩, 0) else (⟨b.orders, b.fills, b.ids, x.time, b.bad⟩, errR (closeO b.orders x.ord).2))
theorem find_open {l : List Od} {id : Bs} (h : rightO l = true) : ((findF l id).2 = false ∨ (findF l id).1.opn = false) ↔ openF l id = none := by
  unfold findF openF
  rw [if_pos h]
  cases placeF l id with
  | none => simp
  | some n => simp only []; cases (l.getD n zeroO).opn <;> simp
theorem find_some {l : List Od} {id : Bs} {n : Nat} (h : rightO l = true) (h2 : openF l id = some n) : (findF l id).1 = l.getD n zeroO := by
  unfold openF at h2
  unfold findF
  rw [if_pos h]
  cases hp : placeF l id with
  | none => rw [hp] at h2; simp at h2
  | some k =>
    rw [hp] at h2; simp only [] at h2
    split at h2
    · simp only [Option.some.injEq] at h2; subst h2; rfl
    · simp at h2
theorem change_not9 {l : List Od} {a b : Bs} {q p : Int} : (changeO l a b q p).2 ≠ 9 := by
  unfold changeO
  repeat' split
  all_goals simp
  all_goals (repeat' split)
  all_goals simp
theorem applyR_spec {b : Bk} {x : Ex} (hr : rightO b.orders = true) (hk : 1 ≤ x.kind ∧ x.kind ≤ 8) : (applyR b x).2 = (applyF b x).2 ∧ ((applyF b x).2 = 0 → (applyR b x).1 = { (applyF b x).1 with clock := x.time }) := by
  unfold applyR applyF
  by_cases h1 : x.time < b.clock
  · rw [if_pos h1, if_pos h1]; exact ⟨rfl, fun h => absurd h (by simp)⟩
  rw [if_neg h1, if_neg h1]
  by_cases h2 : x.kind = 1
  · rw [if_pos h2, if_pos h2]
    simp only []
    split
    · exact ⟨rfl, fun _ => rfl⟩
    · exact ⟨rfl, fun h => absurd h (by simp)⟩
  rw [if_neg h2, if_neg h2]
  by_cases h3 : 6 < x.kind
  · rw [if_pos h3, if_pos (show x.kind = 7 ∨ x.kind = 8 by omega)]
    rw [show (⟨b.orders, b.fills, b.ids, x.time, b.bad⟩ : Bk) = { b with clock := x.time } from rfl, amend_clock]; exact ⟨rfl, fun _ => rfl⟩
  rw [if_neg h3, if_neg (show ¬ (x.kind = 7 ∨ x.kind = 8) by omega)]
  simp only []
  cases ho : openF b.orders (if x.kind = 4 then x.ref else x.ord) with
  | none =>
    rw [if_pos ((find_open hr).2 ho)]; exact ⟨rfl, fun h => absurd h (by simp)⟩
  | some n =>
    have hfo : ¬ ((findF b.orders (if x.kind = 4 then x.ref else x.ord)).2 = false ∨ (findF b.orders (if x.kind = 4 then x.ref else x.ord)).1.opn = false) := fun h => by rw [(find_open hr).1 h] at ho; simp at ho
    simp only []
    rw [if_neg hfo, find_some hr ho]
    by_cases h4 : (b.orders.getD n zeroO).acc ≠ x.acc ∨ (b.orders.getD n zeroO).sym ≠ x.sym ∨ (b.orders.getD n zeroO).buy ≠ x.buy
    · rw [if_pos h4, if_pos h4]; exact ⟨rfl, fun h => absurd h (by simp)⟩
    rw [if_neg h4, if_neg h4]
    by_cases h5 : x.kind = 2
    · rw [if_pos h5, if_pos h5]
      unfold fillF
      simp only []
      split
      · exact ⟨rfl, fun _ => rfl⟩
      · unfold errR
        split
        · exact ⟨rfl, fun h => absurd h (by simp)⟩
        · split
          · exact ⟨rfl, fun h => absurd h (by simp)⟩
          · exact ⟨rfl, fun h => absurd h (by simp)⟩
    rw [if_neg h5, if_neg h5]
    by_cases h6 : x.kind = 4
    · rw [if_pos h6, if_pos h6]
      unfold replaceF
      simp only []
      split
      · exact ⟨rfl, fun _ => rfl⟩
      · unfold errR
        split
        · exact ⟨rfl, fun h => absurd h (by simp)⟩
        · rw [if_neg change_not9]; exact ⟨rfl, fun h => absurd h (by simp)⟩
    rw [if_neg h6, if_neg h6]
    rw [if_neg h6] at ho
    have hc : (closeO b.orders x.ord).2 = 0 := by unfold closeO; simp [hr, ho]
    rw [if_pos hc, if_pos hc]; exact ⟨rfl, fun _ => rfl⟩
theorem exec_kinds {x : Ex} (h : execB x = true) : 1 ≤ x.kind ∧ x.kind ≤ 8 := by
  apply Classical.byContradiction
  intro hn
  unfold execB at h
  rw [if_neg (by omega), if_neg (by omega)] at h
  simp at h
theorem hasF_idI {l : List Bs} {id : Bs} : hasF l id = decide (0 ≤ idI l id) := rfl
theorem take_c4 {b : Bk} {x : Ex} (h : b.bad ≠ 0 ∨ 256 ≤ b.ids.length) : takeF b x = (b, 4) := by unfold takeF; rw [if_pos h]
theorem take_c2 {b : Bk} {x : Ex} (h : ¬ (b.bad ≠ 0 ∨ 256 ≤ b.ids.length)) (h2 : 0 ≤ idI b.ids x.id) : takeF b x = (b, 2) := by unfold takeF; rw [if_neg h, hasF_idI, if_pos (by simpa using h2)]
theorem take_c3 {b : Bk} {x : Ex} (hr : rightO b.orders = true) (hk : 1 ≤ x.kind ∧ x.kind ≤ 8) (h : ¬ (b.bad ≠ 0 ∨ 256 ≤ b.ids.length)) (h2 : ¬ 0 ≤ idI b.ids x.id) (h3 : ¬ (applyR ⟨b.orders, b.fills, b.ids ++ [x.id], b.clock, b.bad⟩ x).2 = 0) :
    takeF b x = (⟨b.orders, b.fills, b.ids ++ [x.id], b.clock, (applyR ⟨b.orders, b.fills, b.ids ++ [x.id], b.clock, b.bad⟩ x).2⟩, 3) := by
  have hs := applyR_spec (b := ⟨b.orders, b.fills, b.ids ++ [x.id], b.clock, b.bad⟩) (x := x) hr hk
  rw [hs.1] at h3 ⊢
  have hw := applyF_wrong (b := ⟨b.orders, b.fills, b.ids ++ [x.id], b.clock, b.bad⟩) (x := x) h3
  unfold takeF; rw [if_neg h, hasF_idI, if_neg (by simpa using h2)]
  simp only []
  rw [if_pos h3, hw.1]
theorem take_c1 {b : Bk} {x : Ex} (hr : rightO b.orders = true) (hk : 1 ≤ x.kind ∧ x.kind ≤ 8) (h : ¬ (b.bad ≠ 0 ∨ 256 ≤ b.ids.length)) (h2 : ¬ 0 ≤ idI b.ids x.id) (h3 : (applyR ⟨b.orders, b.fills, b.ids ++ [x.id], b.clock, b.bad⟩ x).2 = 0) :
    takeF b x = ((applyR ⟨b.orders, b.fills, b.ids ++ [x.id], b.clock, b.bad⟩ x).1, 1) := by
  have hs := applyR_spec (b := ⟨b.orders, b.fills, b.ids ++ [x.id], b.clock, b.bad⟩) (x := x) hr hk
  rw [hs.1] at h3
  rw [hs.2 h3]
  unfold takeF; rw [if_neg h, hasF_idI, if_neg (by simpa using h2)]
  simp only []
  rw [if_neg (by simpa using h3)]
theorem come_fold {l : List Ex} {i : Nat} {x : Ex} {k : Bk} (hr : rightBk k = true) (h : l[i]? = some x) (hk : k = allF (l.take i)) : (comeF k x).1 = allF (l.take (i + 1)) := by
  rw [allF_eq, fold_next h, ← allF_eq, ← hk]
  unfold comeF stepF
  rw [hr]
  cases execB x <;> simp
end Go.Bk

/- The document's way with a book, case by case. No program. -/
set_option linter.unusedVariables false
set_option linter.unusedSimpArgs false
namespace Go.Bk
theorem at_get {l : List Dn} {id : Bs} (h : ¬ atI l id < 0) : ∃ n f, atI l id = (n : Nat) ∧ atF l id = some n ∧ l[n]? = some f ∧ n < l.length := by
  rcases at_cases l id with ⟨e, _⟩ | ⟨n, o, e, e2, e3⟩
  · omega
  · exact ⟨n, o, e, e2, e3, get_lt e3⟩
theorem at_lt {l : List Dn} {id : Bs} (h : atI l id < 0) : atF l id = none := by
  rcases at_cases l id with ⟨_, e⟩ | ⟨n, o, e, _, _⟩
  · exact e
  · omega
theorem am_none {b : Bk} {x : Ex} (h : atI b.fills x.ref < 0) : amendF b x = (b, 6) := by unfold amendF; rw [at_lt h]
section
variable {b : Bk} {x : Ex} {n : Nat} {f : Dn}
theorem am_go (h : atF b.fills x.ref = some n) (h2 : b.fills[n]? = some f) : amendF b x =
    if f.live = false ∨ 10 < x.time - f.time then (b, 6)
    else if f.ord ≠ x.ord ∨ f.acc ≠ x.acc ∨ f.sym ≠ x.sym ∨ f.buy ≠ x.buy then (b, 3)
    else if x.kind = 7 then (⟨b.orders, b.fills.set n ⟨f.id, f.ord, f.acc, f.sym, f.buy, f.qty, f.price, f.time, false⟩, b.ids, b.clock, b.bad⟩, 0)
    else if f.qty < x.qty then (b, 4)
    else if (findF b.orders f.ord).2 = false ∨ fairF { (findF b.orders f.ord).1 with buy := f.buy } x.price = false then (b, 5)
    else (⟨b.orders, b.fills.set n ⟨f.id, f.ord, f.acc, f.sym, f.buy, x.qty, x.price, f.time, f.live⟩, b.ids, b.clock, b.bad⟩, 0) := by
  unfold amendF; rw [h]; simp only [getDD h2]
variable (h : atF b.fills x.ref = some n) (h2 : b.fills[n]? = some f)
include h h2
theorem am_6 (h3 : f.live = false ∨ 10 < x.time - f.time) : amendF b x = (b, 6) := by rw [am_go h h2, if_pos h3]
theorem am_3 (h3 : ¬ (f.live = false ∨ 10 < x.time - f.time)) (h4 : f.ord ≠ x.ord ∨ f.acc ≠ x.acc ∨ f.sym ≠ x.sym ∨ f.buy ≠ x.buy) : amendF b x = (b, 3) := by rw [am_go h h2, if_neg h3, if_pos h4]
theorem am_7 (h3 : ¬ (f.live = false ∨ 10 < x.time - f.time)) (h4 : ¬ (f.ord ≠ x.ord ∨ f.acc ≠ x.acc ∨ f.sym ≠ x.sym ∨ f.buy ≠ x.buy)) (h5 : x.kind = 7) : amendF b x = (⟨b.orders, b.fills.set n ⟨f.id, f.ord, f.acc, f.sym, f.buy, f.qty, f.price, f.time, false⟩, b.ids, b.clock, b.bad⟩, 0) := by rw [am_go h h2, if_neg h3, if_neg h4, if_pos h5]
theorem am_4 (h3 : ¬ (f.live = false ∨ 10 < x.time - f.time)) (h4 : ¬ (f.ord ≠ x.ord ∨ f.acc ≠ x.acc ∨ f.sym ≠ x.sym ∨ f.buy ≠ x.buy)) (h5 : ¬ x.kind = 7) (h6 : f.qty < x.qty) : amendF b x = (b, 4) := by rw [am_go h h2, if_neg h3, if_neg h4, if_neg h5, if_pos h6]
theorem am_5a (hr : rightO b.orders = true) (h3 : ¬ (f.live = false ∨ 10 < x.time - f.time)) (h4 : ¬ (f.ord ≠ x.ord ∨ f.acc ≠ x.acc ∨ f.sym ≠ x.sym ∨ f.buy ≠ x.buy)) (h5 : ¬ x.kind = 7) (h6 : ¬ f.qty < x.qty) (h7 : placeI b.orders f.ord < 0) : amendF b x = (b, 5) := by
  rw [am_go h h2, if_neg h3, if_neg h4, if_neg h5, if_neg h6, if_pos (.inl (by rw [find_no2 hr h7]))]
theorem am_5b {m : Nat} {o : Od} (hr : rightO b.orders = true) (h3 : ¬ (f.live = false ∨ 10 < x.time - f.time)) (h4 : ¬ (f.ord ≠ x.ord ∨ f.acc ≠ x.acc ∨ f.sym ≠ x.sym ∨ f.buy ≠ x.buy)) (h5 : ¬ x.kind = 7) (h6 : ¬ f.qty < x.qty) (h7 : placeI b.orders f.ord = m) (h8 : b.orders[m]? = some o)
    (h9 : f.buy = true ∧ o.price < x.price ∨ f.buy = false ∧ x.price < o.price) : amendF b x = (b, 5) := by
  rw [am_go h h2, if_neg h3, if_neg h4, if_neg h5, if_neg h6, if_pos (.inr (by
    rw [find_yes hr h7 h8]; rcases h9 with ⟨e, h9⟩ | ⟨e, h9⟩ <;> simp [fairF, e] <;> omega))]
theorem am_8 {m : Nat} {o : Od} (hr : rightO b.orders = true) (hs : smallB x.price = true) (h3 : ¬ (f.live = false ∨ 10 < x.time - f.time)) (h4 : ¬ (f.ord ≠ x.ord ∨ f.acc ≠ x.acc ∨ f.sym ≠ x.sym ∨ f.buy ≠ x.buy)) (h5 : ¬ x.kind = 7) (h6 : ¬ f.qty < x.qty) (h7 : placeI b.orders f.ord = m) (h8 : b.orders[m]? = some o)
    (h9 : f.buy = true ∧ ¬ o.price < x.price ∨ f.buy = false ∧ ¬ x.price < o.price) : amendF b x = (⟨b.orders, b.fills.set n ⟨f.id, f.ord, f.acc, f.sym, f.buy, x.qty, x.price, f.time, f.live⟩, b.ids, b.clock, b.bad⟩, 0) := by
  rw [am_go h h2, if_neg h3, if_neg h4, if_neg h5, if_neg h6, if_neg (by
    rw [find_yes hr h7 h8]; rcases h9 with ⟨e, h9⟩ | ⟨e, h9⟩ <;> simp [fairF, e, hs] <;> omega)]
end
section
variable {b : Bk} {x : Ex}
theorem aR_1 (h : x.time < b.clock) : applyR b x = (b, 1) := by unfold applyR; rw [if_pos h]
variable (h : ¬ x.time < b.clock)
include h
theorem aR_new (h1 : x.kind = 1) (h2 : (newO b.orders (orderOf x)).2 = 0) : applyR b x = (⟨(newO b.orders (orderOf x)).1, b.fills, b.ids, x.time, b.bad⟩, 0) := by unfold applyR; rw [if_neg h, if_pos h1, if_pos h2]
theorem aR_new2 (h1 : x.kind = 1) (h2 : ¬ (newO b.orders (orderOf x)).2 = 0) : applyR b x = (⟨b.orders, b.fills, b.ids, x.time, b.bad⟩, 2) := by unfold applyR; rw [if_neg h, if_pos h1, if_neg h2]
variable (h1 : ¬ x.kind = 1)
include h1
theorem aR_am (h2 : 6 < x.kind) : applyR b x = amendF ⟨b.orders, b.fills, b.ids, x.time, b.bad⟩ x := by unfold applyR; rw [if_neg h, if_neg h1, if_pos h2]
variable (h2 : ¬ 6 < x.kind) {id : Bs} (hid : (if x.kind = 4 then x.ref else x.ord) = id)
include h2 hid
theorem aR_none (h3 : openF b.orders id = none) : applyR b x = (⟨b.orders, b.fills, b.ids, x.time, b.bad⟩, 2) := by unfold applyR; rw [if_neg h, if_neg h1, if_neg h2, hid, h3]
variable {n : Nat} {o : Od} (h3 : openF b.orders id = some n) (h4 : b.orders[n]? = some o)
include h3 h4
theorem aR_3 (h5 : o.acc ≠ x.acc ∨ o.sym ≠ x.sym ∨ o.buy ≠ x.buy) : applyR b x = (⟨b.orders, b.fills, b.ids, x.time, b.bad⟩, 3) := by unfold applyR; rw [if_neg h, if_neg h1, if_neg h2, hid, h3]; simp only [getD_of h4]; rw [if_pos h5]
variable (h5 : ¬ (o.acc ≠ x.acc ∨ o.sym ≠ x.sym ∨ o.buy ≠ x.buy))
include h5
theorem aR_fill (h6 : x.kind = 2) (h7 : (fillO b.orders x.ord x.qty x.price).2 = 0) : applyR b x = (⟨(fillO b.orders x.ord x.qty x.price).1, b.fills ++ [doneOf x], b.ids, x.time, b.bad⟩, 0) := by
  unfold applyR; rw [if_neg h, if_neg h1, if_neg h2, hid, h3]; simp only [getD_of h4]; rw [if_neg h5, if_pos h6, if_pos h7]
theorem aR_fillE (h6 : x.kind = 2) (h7 : ¬ (fillO b.orders x.ord x.qty x.price).2 = 0) : applyR b x = (⟨b.orders, b.fills ++ [doneOf x], b.ids, x.time, b.bad⟩, errR (fillO b.orders x.ord x.qty x.price).2) := by
  unfold applyR; rw [if_neg h, if_neg h1, if_neg h2, hid, h3]; simp only [getD_of h4]; rw [if_neg h5, if_pos h6, if_neg h7]
theorem aR_change (h6 : x.kind = 4) (h7 : (changeO b.orders x.ref x.ord x.qty x.price).2 = 0) : applyR b x = (⟨(changeO b.orders x.ref x.ord x.qty x.price).1, b.fills, b.ids, x.time, b.bad⟩, 0) := by
  unfold applyR; rw [if_neg h, if_neg h1, if_neg h2, hid, h3]; simp only [getD_of h4]; rw [if_neg h5, if_neg (show ¬ x.kind = 2 by omega), if_pos h6, if_pos h7]
theorem aR_changeE (h6 : x.kind = 4) (h7 : ¬ (changeO b.orders x.ref x.ord x.qty x.price).2 = 0) : applyR b x = (⟨b.orders, b.fills, b.ids, x.time, b.bad⟩, errR (changeO b.orders x.ref x.ord x.qty x.price).2) := by
  unfold applyR; rw [if_neg h, if_neg h1, if_neg h2, hid, h3]; simp only [getD_of h4]; rw [if_neg h5, if_neg (show ¬ x.kind = 2 by omega), if_pos h6, if_neg h7]
theorem aR_close (hr : rightO b.orders = true) (h6 : ¬ x.kind = 2) (h7 : ¬ x.kind = 4) : applyR b x = (⟨b.orders.set n ⟨o.id, o.acc, o.sym, o.buy, o.qty, o.price, o.done, false⟩, b.fills, b.ids, x.time, b.bad⟩, 0) := by
  rw [if_neg h7] at hid
  subst hid
  unfold applyR; rw [if_neg h, if_neg h1, if_neg h2, if_neg h7, h3]; simp only [getD_of h4]; rw [if_neg h5, if_neg h6, if_neg h7, close_ok hr h3 h4, if_pos rfl]
end
theorem come_n {b : Bk} {x : Ex} (h : rightBk b = false ∨ execB x = false) : comeF b x = (b, 0) := by
  unfold comeF; rcases h with h | h <;> simp [h]
theorem come_y {b : Bk} {x : Ex} (h1 : rightBk b = true) (h2 : execB x = true) : comeF b x = takeF b x := by unfold comeF; simp [h1, h2]
end Go.Bk

/- What may come at the worst, told by the book. No program. -/
set_option linter.unusedVariables false
set_option linter.unusedSimpArgs false
namespace Go.Bk
open Go Go.Abs
abbrev Ws := Int × Int
def plusW (a b : Ws) : Ws := (IntKind.i64.wrap (a.1 + b.1), IntKind.i64.wrap (a.2 + b.2))
def sideW (buy : Bool) (q : Int) : Ws := if buy then (q, 0) else (0, q)
def finalF (b : Bk) (f : Dn) : Bool := if f.time < 0 ∨ 4611686018427387904 < f.time then false else decide (10 < IntKind.i64.wrap (b.clock - f.time))
/-- What a fill adds, what an order adds. -/
def fillA (fin : Bool) (acc sym : Bs) (f : Dn) : Ws := if f.live = true ∧ f.acc = acc ∧ f.sym = sym then (if f.buy then (f.qty, if fin then -f.qty else 0) else (if fin then -f.qty else 0, f.qty)) else (0, 0)
def ordA (acc sym : Bs) (o : Od) : Ws := if o.acc = acc ∧ o.sym = sym then sideW o.buy (leftF o) else (0, 0)
def pendA (acc sym : Bs) (o : Od) : Ws := if o.acc = acc ∧ o.sym = sym then sideW o.buy (o.qty - o.done) else (0, 0)
def sumW : List Ws → Ws
  | [] => (0, 0)
  | x :: l => (x.1 + (sumW l).1, x.2 + (sumW l).2)
theorem sumW_app (l m : List Ws) : sumW (l ++ m) = ((sumW l).1 + (sumW m).1, (sumW l).2 + (sumW m).2) := by
  induction l with
  | nil => simp [sumW]
  | cons x l ih => simp only [List.cons_append, sumW, ih]; exact Prod.ext (by simp only []; omega) (by simp only []; omega)
def fillsA (b : Bk) (acc sym : Bs) (l : List Dn) : List Ws := l.map fun f => fillA (finalF b f) acc sym f
def ofE (b : Bk) (acc sym : Bs) : Ws := ((sumW (fillsA b acc sym b.fills)).1 + (sumW (b.orders.map (ordA acc sym))).1, (sumW (fillsA b acc sym b.fills)).2 + (sumW (b.orders.map (ordA acc sym))).2)
def ofF (b : Bk) (acc sym : Bs) : Ws := if rightBk b then ofE b acc sym else (0, 0)
def pendF (l : List Od) (acc sym : Bs) : Ws := if rightO l then sumW (l.map (pendA acc sym)) else (0, 0)
def Bnd (w : Ws) (n : Int) : Prop := -n ≤ w.1 ∧ w.1 ≤ n ∧ -n ≤ w.2 ∧ w.2 ≤ n
theorem sum_bnd {l : List Ws} {c : Int} (hc : 0 ≤ c) (h : ∀ w ∈ l, Bnd w c) : Bnd (sumW l) (l.length * c) := by
  induction l with
  | nil => simp [sumW, Bnd]
  | cons x l ih =>
    have h1 := h x (by simp)
    have h2 := ih fun w hw => h w (by simp [hw])
    simp only [Bnd, sumW, List.length_cons] at *
    rw [show (((l.length + 1 : Nat) : Int)) * c = l.length * c + c by rw [Int.natCast_add, Int.add_mul]; simp]
    omega
theorem side_bnd {b : Bool} {q c : Int} (h : 0 ≤ q) (h2 : q ≤ c) : Bnd (sideW b q) c := by
  unfold sideW Bnd; cases b <;> simp <;> omega
theorem fillA_bnd {fin : Bool} {acc sym : Bs} {f : Dn} (h : 0 ≤ f.qty) (h2 : f.qty ≤ 1099511627776) : Bnd (fillA fin acc sym f) 1099511627776 := by
  unfold fillA Bnd
  split
  · cases f.buy <;> cases fin <;> simp <;> omega
  · simp
theorem left_bnd (o : Od) : 0 ≤ leftF o ∧ leftF o ≤ 1099511627776 := by
  unfold leftF
  split
  · rename_i h
    simp only [mayB, smallB, Bool.and_eq_true, decide_eq_true_eq] at h; omega
  · omega
theorem ordA_bnd {acc sym : Bs} {o : Od} : Bnd (ordA acc sym o) 1099511627776 := by
  unfold ordA
  split
  · exact side_bnd (left_bnd o).1 (left_bnd o).2
  · simp [Bnd]
theorem plus_eq {a b : Ws} {n m : Int} (h1 : Bnd a n) (h2 : Bnd b m) (h : n + m ≤ 9000000000000000000) : plusW a b = (a.1 + b.1, a.2 + b.2) := by
  simp only [Bnd] at h1 h2
  unfold plusW
  rw [wrap64_id (by omega) (by omega), wrap64_id (by omega) (by omega)]
section
variable {b : Bk} {acc sym : Bs} {i : Nat} {f : Dn} {w : Ws}
/-- The sum so far. -/
def upF (b : Bk) (acc sym : Bs) (i : Nat) : Ws := sumW (fillsA b acc sym (b.fills.take i))
def upO (b : Bk) (acc sym : Bs) (i : Nat) : Ws := ((upF b acc sym b.fills.length).1 + (sumW ((b.orders.take i).map (ordA acc sym))).1, (upF b acc sym b.fills.length).2 + (sumW ((b.orders.take i).map (ordA acc sym))).2)
theorem right_amounts (hr : rightBk b = true) : ∀ f ∈ b.fills, 0 ≤ f.qty ∧ f.qty ≤ 1099511627776 ∧ 0 ≤ f.time ∧ f.time ≤ b.clock := by
  intro f hf
  have h := (rightBk_iff.1 hr).2.2.1 f hf
  simp only [fillB, smallB, Bool.and_eq_true, decide_eq_true_eq] at h
  omega
theorem upF_bnd (hr : rightBk b = true) : Bnd (upF b acc sym i) (256 * 1099511627776) := by
  have h1 : ∀ x ∈ fillsA b acc sym (b.fills.take i), Bnd x 1099511627776 := by
    intro x hx
    obtain ⟨f, hf, rfl⟩ := List.mem_map.1 hx
    have := right_amounts hr f (List.mem_of_mem_take hf)
    exact fillA_bnd this.1 this.2.1
  have h2 := sum_bnd (by omega) h1
  have h3 : (fillsA b acc sym (b.fills.take i)).length ≤ 256 := by
    have := (rightBk_iff.1 hr).1.2.1
    simp only [fillsA, List.length_map, List.length_take]; omega
  simp only [Bnd, upF] at *
  omega
theorem upF_next (hb : b.fills[i]? = some f) : upF b acc sym (i + 1) = ((upF b acc sym i).1 + (fillA (finalF b f) acc sym f).1, (upF b acc sym i).2 + (fillA (finalF b f) acc sym f).2) := by
  unfold upF fillsA
  rw [take_next hb, List.map_append, sumW_app]
  simp [sumW]
theorem up_no (hb : b.fills[i]? = some f) (hw : w = upF b acc sym i) (h : ¬ (f.live = true ∧ f.acc = acc ∧ f.sym = sym)) : w = upF b acc sym (i + 1) := by
  rw [upF_next hb, hw]; unfold fillA; rw [if_neg h]; simp
theorem up_yes (hr : rightBk b = true) (hb : b.fills[i]? = some f) (hw : w = upF b acc sym i) (h : f.live = true ∧ f.acc = acc ∧ f.sym = sym) (hf : finalF b f = false) : plusW w (sideW f.buy f.qty) = upF b acc sym (i + 1) := by
  have ha := right_amounts hr f (List.mem_of_getElem? hb)
  rw [upF_next hb, hw, plus_eq (upF_bnd hr) (side_bnd ha.1 ha.2.1) (by omega)]; unfold fillA sideW; rw [if_pos h, hf]; cases f.buy <;> simp
theorem up_fin (hr : rightBk b = true) (hb : b.fills[i]? = some f) (hw : w = upF b acc sym i) (h : f.live = true ∧ f.acc = acc ∧ f.sym = sym) (hf : finalF b f = true) : plusW (plusW w (sideW f.buy f.qty)) (sideW (!f.buy) (IntKind.i64.wrap (0 - f.qty))) = upF b acc sym (i + 1) := by
  have ha := right_amounts hr f (List.mem_of_getElem? hb)
  have h1 := upF_bnd (acc := acc) (sym := sym) (i := i) hr
  have h2 : Bnd (sideW f.buy f.qty) 1099511627776 := side_bnd ha.1 ha.2.1
  have hn : IntKind.i64.wrap (0 - f.qty) = -f.qty := by rw [wrap64_id (by omega) (by omega)]; omega
  have h3 : Bnd (sideW (!f.buy) (-f.qty)) 1099511627776 := by unfold sideW Bnd; cases f.buy <;> simp <;> omega
  rw [upF_next hb, hw, plus_eq h1 h2 (by omega), hn, plus_eq (n := 257 * 1099511627776) (by simp only [Bnd] at *; omega) h3 (by omega)]
  unfold fillA sideW; rw [if_pos h, hf]; cases f.buy <;> simp
theorem upO_bnd (hr : rightBk b = true) : Bnd (upO b acc sym i) (320 * 1099511627776) := by
  have h1 := upF_bnd (acc := acc) (sym := sym) (i := b.fills.length) hr
  have h2 : Bnd (sumW ((b.orders.take i).map (ordA acc sym))) (((b.orders.take i).map (ordA acc sym)).length * 1099511627776) := sum_bnd (by omega) (fun x hx => by
    obtain ⟨o, _, rfl⟩ := List.mem_map.1 hx; exact ordA_bnd)
  have h3 : ((b.orders.take i).map (ordA acc sym)).length ≤ 64 := by
    have := right_len (rightBk_iff.1 hr).1.1
    simp only [List.length_map, List.length_take]; omega
  simp only [Bnd, upO] at *
  omega
variable {o : Od}
theorem upO_zero (hi : b.fills.length ≤ i) (hw : w = upF b acc sym i) : w = upO b acc sym 0 := by
  rw [hw]; unfold upO upF; rw [List.take_of_length_le hi, List.take_length]; simp [sumW]
theorem upO_next (hb : b.orders[i]? = some o) : upO b acc sym (i + 1) = ((upO b acc sym i).1 + (ordA acc sym o).1, (upO b acc sym i).2 + (ordA acc sym o).2) := by
  unfold upO
  rw [take_next hb, List.map_append, sumW_app]
  simp [sumW, Int.add_assoc]
theorem upO_no (hb : b.orders[i]? = some o) (hw : w = upO b acc sym i) (h : ¬ (o.acc = acc ∧ o.sym = sym)) : w = upO b acc sym (i + 1) := by
  rw [upO_next hb, hw]; unfold ordA; rw [if_neg h]; simp
theorem upO_yes (hr : rightBk b = true) (hb : b.orders[i]? = some o) (hw : w = upO b acc sym i) (h : o.acc = acc ∧ o.sym = sym) : plusW w (sideW o.buy (leftF o)) = upO b acc sym (i + 1) := by
  rw [upO_next hb, hw, plus_eq (upO_bnd hr) (side_bnd (left_bnd o).1 (left_bnd o).2) (by omega)]; unfold ordA; rw [if_pos h]
theorem upO_end (hr : rightBk b = true) (hi : b.orders.length ≤ i) (hw : w = upO b acc sym i) : w = ofF b acc sym := by
  rw [hw]; unfold upO ofF upF; rw [List.take_of_length_le hi, List.take_length, if_pos hr]; rfl
end
end Go.Bk

/- No execution makes it worse but a new order, or a replacement. No program. -/
set_option linter.unusedVariables false
set_option linter.unusedSimpArgs false
namespace Go.Bk
open Go Go.Abs
def LeW (a b : Ws) : Prop := a.1 ≤ b.1 ∧ a.2 ≤ b.2
theorem LeW.refl (a : Ws) : LeW a a := ⟨Int.le_refl _, Int.le_refl _⟩
theorem sum_le {α : Type} {f g : α → Ws} : ∀ {l : List α}, (∀ x ∈ l, LeW (f x) (g x)) → LeW (sumW (l.map f)) (sumW (l.map g))
  | [], _ => LeW.refl _
  | x :: l, h => by
    have h1 := h x (by simp)
    have h2 := sum_le (l := l) fun y hy => h y (by simp [hy])
    simp only [LeW, List.map_cons, sumW] at *; omega
theorem sum_set {α : Type} {f : α → Ws} : ∀ {l : List α} {n : Nat} {x y : α}, l[n]? = some x → sumW ((l.set n y).map f) = ((sumW (l.map f)).1 - (f x).1 + (f y).1, (sumW (l.map f)).2 - (f x).2 + (f y).2)
  | [], n, x, y, h => by simp at h
  | z :: l, 0, x, y, h => by
    simp only [List.getElem?_cons_zero, Option.some.injEq] at h; subst h
    simp only [List.set_cons_zero, List.map_cons, sumW]; exact Prod.ext (by simp only []; omega) (by simp only []; omega)
  | z :: l, n + 1, x, y, h => by
    simp only [List.getElem?_cons_succ] at h
    simp only [List.set_cons_succ, List.map_cons, sumW, sum_set h]; exact Prod.ext (by simp only []; omega) (by simp only []; omega)
theorem final_eq {b : Bk} {f : Dn} (h1 : 0 ≤ f.time) (h2 : f.time ≤ b.clock) (h3 : b.clock ≤ 4611686018427387904) : finalF b f = decide (10 < b.clock - f.time) := by
  unfold finalF; rw [if_neg (by omega), wrap64_id (by omega) (by omega)]
theorem side_ge {b : Bool} {q : Int} (h : 0 ≤ q) : LeW (0, 0) (sideW b q) := by unfold sideW LeW; cases b <;> simp [h]
theorem ordA_ge {acc sym : Bs} {o : Od} : LeW (0, 0) (ordA acc sym o) := by
  unfold ordA; split
  · exact side_ge (left_bnd o).1
  · exact LeW.refl _
theorem side_le {b : Bool} {p q : Int} (h : p ≤ q) : LeW (sideW b p) (sideW b q) := by unfold sideW LeW; cases b <;> simp [h]
theorem fillA_fin {acc sym : Bs} {f : Dn} (hq : 0 ≤ f.qty) {u v : Bool} (h : v = true → u = true) : LeW (fillA u acc sym f) (fillA v acc sym f) := by
  unfold fillA LeW
  split
  · cases f.buy <;> cases u <;> cases v <;> simp at * <;> omega
  · simp
/-- By how much it may get worse. -/
def moreA (acc sym : Bs) (x : Ex) : Ws := if (x.kind = 1 ∨ x.kind = 4) ∧ x.acc = acc ∧ x.sym = sym then sideW x.buy x.qty else (0, 0)
theorem moreA_ge {acc sym : Bs} {x : Ex} (h : 0 ≤ x.qty) : LeW (0, 0) (moreA acc sym x) := by
  unfold moreA; split
  · exact side_ge h
  · exact LeW.refl _
theorem fill_zero {l : List Od} {id : Bs} {q p : Int} (h : (fillO l id q p).2 = 0) : ∃ n o, rightO l = true ∧ openF l id = some n ∧ l[n]? = some o ∧ o.opn = true ∧ ¬ q < 1 ∧ ¬ leftF o < q ∧ (fillO l id q p).1 = l.set n ⟨o.id, o.acc, o.sym, o.buy, o.qty, o.price, o.done + q, decide (o.done + q < o.qty)⟩ := by
  cases hr : rightO l with
  | false => rw [fill_e1 hr] at h; simp at h
  | true =>
    cases ho : openF l id with
    | none => rw [fill_e6 hr ho] at h; simp at h
    | some n =>
      obtain ⟨o, g1, g2, g3, g4⟩ := openF_get ho
      by_cases h1 : q < 1 ∨ leftF o < q
      · rw [fill_e1' hr ho g1 h1] at h; simp at h
      · cases hf : fairF o p with
        | false => rw [fill_e9 hr ho g1 (by omega) (by omega) hf] at h; simp at h
        | true => exact ⟨n, o, rfl, rfl, g1, g3, by omega, by omega, by rw [fill_ok hr ho g1 (by omega) (by omega) hf]⟩
theorem change_zero {l : List Od} {a b : Bs} {q p : Int} (h : (changeO l a b q p).2 = 0) : ∃ n o, rightO l = true ∧ openF l a = some n ∧ l[n]? = some o ∧ o.opn = true ∧ (changeO l a b q p).1 = l.set n ⟨o.id, o.acc, o.sym, o.buy, o.qty, o.price, o.done, false⟩ ++ [⟨b, o.acc, o.sym, o.buy, q, p, o.done, decide (o.done < q)⟩] := by
  cases hr : rightO l with
  | false => rw [change_e1 hr] at h; simp at h
  | true =>
    cases ho : openF l a with
    | none => rw [change_e6 hr ho] at h; simp at h
    | some n =>
      obtain ⟨o, g1, g2, g3, g4⟩ := openF_get ho
      cases hm : mayB ⟨b, o.acc, o.sym, o.buy, q, p, o.done, decide (o.done < q)⟩ with
      | false => rw [change_e1' hr ho g1 hm] at h; simp at h
      | true =>
        by_cases h4 : 0 ≤ placeI l b
        · rw [change_e7 hr ho g1 hm h4] at h; simp at h
        · by_cases h5 : 64 ≤ l.length
          · rw [change_e5 hr ho g1 hm h4 h5] at h; simp at h
          · exact ⟨n, o, rfl, rfl, g1, g3, by rw [change_ok hr ho g1 hm h4 h5]⟩
theorem close_zero {l : List Od} {id : Bs} (h : (closeO l id).2 = 0) : ∃ n o, rightO l = true ∧ openF l id = some n ∧ l[n]? = some o ∧ o.opn = true ∧ (closeO l id).1 = l.set n ⟨o.id, o.acc, o.sym, o.buy, o.qty, o.price, o.done, false⟩ := by
  cases hr : rightO l with
  | false => rw [close_e1 hr] at h; simp at h
  | true =>
    cases ho : openF l id with
    | none => rw [close_e6 hr ho] at h; simp at h
    | some n =>
      obtain ⟨o, g1, g2, g3, g4⟩ := openF_get ho
      exact ⟨n, o, rfl, rfl, g1, g3, by rw [close_ok hr ho g1]⟩
theorem new_zero {l : List Od} {o : Od} (h : (newO l o).2 = 0) : (newO l o).1 = l ++ [⟨o.id, o.acc, o.sym, o.buy, o.qty, o.price, 0, true⟩] := by
  cases hr : rightO l with
  | false => rw [new_e1 hr] at h; simp at h
  | true =>
    cases hm : mayB ⟨o.id, o.acc, o.sym, o.buy, o.qty, o.price, 0, true⟩ with
    | false => rw [new_e1' hm] at h; simp at h
    | true =>
      by_cases h4 : 0 ≤ placeI l o.id
      · rw [new_e7 hr hm h4] at h; simp at h
      · by_cases h5 : 64 ≤ l.length
        · rw [new_e5 hr hm h4 h5] at h; simp at h
        · rw [new_ok hr hm h4 h5]
theorem left_shut (o : Od) : leftF ⟨o.id, o.acc, o.sym, o.buy, o.qty, o.price, o.done, false⟩ = 0 := by unfold leftF; simp
theorem ordA_shut {acc sym : Bs} (o : Od) : ordA acc sym ⟨o.id, o.acc, o.sym, o.buy, o.qty, o.price, o.done, false⟩ = (0, 0) := by
  unfold ordA; rw [left_shut]; split
  · unfold sideW; cases o.buy <;> simp
  · rfl
theorem left_may {o : Od} (h : mayB o = true) (h2 : o.opn = true) : leftF o = o.qty - o.done := by unfold leftF; simp [h, h2]
section
variable {b : Bk} {x : Ex} {acc sym : Bs}
theorem does_falls {c : Bk} {ids : List Bs} {fin : Dn → Bool} (hro : rightO b.orders = true) (hamt : ∀ f ∈ b.fills, 0 ≤ f.qty ∧ f.qty ≤ 1099511627776 ∧ 0 ≤ f.time ∧ f.time ≤ b.clock) (hcl : b.clock ≤ x.time) (hq : 0 ≤ x.qty) (hck : 0 ≤ x.time)
    (hfin : ∀ f : Dn, 0 ≤ f.time → f.time ≤ x.time → fin f = decide (10 < x.time - f.time)) (hd : Does ⟨b.orders, b.fills, ids, b.clock, b.bad⟩ x c) :
    LeW ((sumW (c.fills.map fun f => fillA (fin f) acc sym f)).1 + (sumW (c.orders.map (ordA acc sym))).1, (sumW (c.fills.map fun f => fillA (fin f) acc sym f)).2 + (sumW (c.orders.map (ordA acc sym))).2)
      ((sumW (b.fills.map fun f => fillA (fin f) acc sym f)).1 + (sumW (b.orders.map (ordA acc sym))).1 + (moreA acc sym x).1, (sumW (b.fills.map fun f => fillA (fin f) acc sym f)).2 + (sumW (b.orders.map (ordA acc sym))).2 + (moreA acc sym x).2) := by
  have hM := moreA_ge (acc := acc) (sym := sym) hq
  cases hd with
  | opens hk h0 =>
    (try simp only at h0); skip
    rw [new_zero h0, List.map_append, sumW_app]
    have : LeW (ordA acc sym ⟨(orderOf x).id, (orderOf x).acc, (orderOf x).sym, (orderOf x).buy, (orderOf x).qty, (orderOf x).price, 0, true⟩) (moreA acc sym x) := by
      unfold ordA moreA orderOf
      simp only
      by_cases hm : x.acc = acc ∧ x.sym = sym
      · rw [if_pos hm, if_pos ⟨.inl hk, hm⟩]
        exact side_le (by unfold leftF; split <;> (try simp only []) <;> omega)
      · rw [if_neg hm, if_neg (fun h => hm h.2)]; exact LeW.refl _
    simp only [LeW, List.map_cons, List.map_nil, sumW] at *; omega
  | busts hk n f hn hid hl ht ho ha hs hb =>
    (try simp only at hn); skip
    rw [sum_set hn]
    have hf := hamt f (List.mem_of_getElem? hn)
    have h1 : LeW (fillA (fin { f with live := false }) acc sym { f with live := false }) (fillA (fin f) acc sym f) := by
      rw [hfin f hf.2.2.1 (by omega), decide_eq_false (by omega)]
      unfold fillA LeW
      simp only [Bool.false_eq_true, false_and, if_false]
      split
      · cases f.buy <;> simp <;> omega
      · simp
    simp only [LeW] at *; omega
  | corrects hk n f hn hid hl ht ho ha hs hb hqq hf' hp =>
    (try simp only at hn); skip
    rw [sum_set hn]
    have hf := hamt f (List.mem_of_getElem? hn)
    have h1 : LeW (fillA (fin { f with qty := x.qty, price := x.price }) acc sym { f with qty := x.qty, price := x.price }) (fillA (fin f) acc sym f) := by
      rw [hfin f hf.2.2.1 (by omega), hfin { f with qty := x.qty, price := x.price } hf.2.2.1 (by show f.time ≤ x.time; omega)]
      simp only
      rw [decide_eq_false (by omega)]
      unfold fillA LeW
      simp only
      split
      · cases f.buy <;> simp <;> omega
      · simp
    simp only [LeW] at *; omega
  | fills hk h0 hf ho ha hs hb =>
    (try simp only at h0 hf ho ha hs hb); skip
    obtain ⟨n, o, _, g2, g3, g4, g5, g6, g7⟩ := fill_zero h0
    rw [find_some hro g2, getD_of g3] at ha hs hb
    rw [g7, sum_set g3, List.map_append, sumW_app]
    have hm := right_at hro g3
    have hroom := fill_room hm g5 g6
    have hl := left_may hm g4
    have hl2 : leftF ⟨o.id, o.acc, o.sym, o.buy, o.qty, o.price, o.done + x.qty, decide (o.done + x.qty < o.qty)⟩ = o.qty - o.done - x.qty := by
      by_cases hlt : o.done + x.qty < o.qty
      · rw [left_may (may_done hm (by omega) (by omega)) (by simp [hlt])]; simp only; omega
      · unfold leftF; simp [hlt]; omega
    have h1 : LeW ((ordA acc sym ⟨o.id, o.acc, o.sym, o.buy, o.qty, o.price, o.done + x.qty, decide (o.done + x.qty < o.qty)⟩).1 + (fillA (fin (doneOf x)) acc sym (doneOf x)).1, (ordA acc sym ⟨o.id, o.acc, o.sym, o.buy, o.qty, o.price, o.done + x.qty, decide (o.done + x.qty < o.qty)⟩).2 + (fillA (fin (doneOf x)) acc sym (doneOf x)).2) (ordA acc sym o) := by
      rw [hfin (doneOf x) hck (Int.le_refl _), show decide (10 < x.time - (doneOf x).time) = false from decide_eq_false (by show ¬ 10 < x.time - x.time; omega)]
      unfold ordA fillA doneOf
      simp only [hl2, hl, ← ha, ← hs, ← hb, true_and]
      split
      · unfold sideW LeW; cases o.buy <;> simp <;> omega
      · simp [LeW]
    simp only [LeW, List.map_cons, List.map_nil, sumW] at *; omega
  | changes hk h0 hf ho ha hs hb =>
    (try simp only at h0 hf ho ha hs hb); skip
    obtain ⟨n, o, _, g2, g3, g4, g7⟩ := change_zero h0
    rw [find_some hro g2, getD_of g3] at ha hs hb
    rw [g7, List.map_append, sumW_app, sum_set g3, ordA_shut]
    have hm := right_at hro g3
    have h2 := ordA_ge (acc := acc) (sym := sym) (o := o)
    have h1 : LeW (ordA acc sym ⟨x.ord, o.acc, o.sym, o.buy, x.qty, x.price, o.done, decide (o.done < x.qty)⟩) (moreA acc sym x) := by
      unfold ordA moreA
      simp only [← ha, ← hs, ← hb]
      by_cases hmm : o.acc = acc ∧ o.sym = sym
      · rw [if_pos hmm, if_pos ⟨.inr hk, hmm⟩]
        exact side_le (by
          simp only [mayB, Bool.and_eq_true, decide_eq_true_eq] at hm
          unfold leftF; split <;> (try simp only []) <;> omega)
      · rw [if_neg hmm, if_neg (fun h => hmm h.2)]; exact LeW.refl _
    simp only [LeW, List.map_cons, List.map_nil, sumW] at *; omega
  | closes hk h0 hf ho ha hs hb =>
    (try simp only at h0); skip
    obtain ⟨n, o, _, g2, g3, g4, g7⟩ := close_zero h0
    rw [g7, sum_set g3, ordA_shut]
    have h2 := ordA_ge (acc := acc) (sym := sym) (o := o)
    simp only [LeW] at *; omega
theorem falls (hr : rightBk b = true) (h : (comeF b x).2 = 1) : LeW (ofE (comeF b x).1 acc sym) ((ofE b acc sym).1 + (moreA acc sym x).1, (ofE b acc sym).2 + (moreA acc sym x).2) := by
  obtain ⟨hx, hbad, hid, c, e, hcl, hd⟩ := fresh_cases hr h
  have hrn := comeF_right (x := x) hr
  rw [e] at hrn ⊢
  have hsm := exec_small hx
  have hq : 0 ≤ x.qty := by have := hsm.1; simp only [smallB, Bool.and_eq_true, decide_eq_true_eq] at this; omega
  have hck : 0 ≤ x.time ∧ x.time ≤ 4611686018427387904 := hsm.2.2
  have hamt := right_amounts hr
  have hb0 := (rightBk_iff.1 hr).1
  let fin : Dn → Bool := fun f => finalF ⟨c.orders, c.fills, b.ids ++ [x.id], x.time, 0⟩ f
  have hfin : ∀ f : Dn, 0 ≤ f.time → f.time ≤ x.time → fin f = decide (10 < x.time - f.time) := fun f h1 h2 => final_eq h1 h2 hck.2
  -- a later clock alone
  have base : LeW (sumW (b.fills.map fun f => fillA (fin f) acc sym f)) (sumW (fillsA b acc sym b.fills)) := by
    refine sum_le fun f hf => ?_
    have ha := hamt f hf
    refine fillA_fin ha.1 fun hv => ?_
    rw [final_eq ha.2.2.1 ha.2.2.2 hb0.2.2.2.2.1, decide_eq_true_eq] at hv
    rw [hfin f ha.2.2.1 (by omega)]; simp; omega
  have hM := moreA_ge (acc := acc) (sym := sym) hq
  have hro := hb0.1
  have key := does_falls (acc := acc) (sym := sym) (fin := fin) hro hamt hcl hq hck.1 hfin hd
  have e1 : fillsA ⟨c.orders, c.fills, b.ids ++ [x.id], x.time, 0⟩ acc sym c.fills = c.fills.map fun f => fillA (fin f) acc sym f := rfl
  unfold ofE
  simp only [e1]
  simp only [LeW] at *; omega
/-- What isn't fresh leaves it as it was. -/
theorem stays_of (hr : rightBk b = true) (hl : b.ids.length < 256) (h : (comeF b x).2 ≠ 1) : ofF (comeF b x).1 acc sym = ofF b acc sym := by
  have hrn := comeF_right (x := x) hr
  have hF := stays_facts (x := x) hr hl
  have same : ∀ n : Bk, n.orders = b.orders → n.fills = b.fills → n.clock = b.clock → rightBk n = true → ofF n acc sym = ofF b acc sym := fun n h1 h2 h3 h4 => by
    unfold ofF; rw [if_pos h4, if_pos hr]; unfold ofE fillsA
    rw [h1, h2]
    have : ∀ f, finalF n f = finalF b f := fun f => by unfold finalF; rw [h3]
    simp only [this]
  cases hx : execB x with
  | false => rw [hF.1 hx]
  | true =>
    by_cases hb : b.bad = 0
    · by_cases hm : x.id ∈ b.ids
      · rw [hF.2.2.1 hx hb hm]
      · rcases (hF.2.2.2.1 hx hb hm).1 with ⟨_, _, _, h4⟩ | ⟨h4, _⟩
        · exact same _ (by have := congrArg Bk.orders h4; exact this) (by have := congrArg Bk.fills h4; exact this) (by have := congrArg Bk.clock h4; exact this) hrn
        · exact absurd h4 h
    · rw [hF.2.1 hx hb]
end
theorem of_bnd {b : Bk} {acc sym : Bs} : Bnd (ofF b acc sym) (320 * 1099511627776) := by
  unfold ofF
  split
  · rename_i hr
    have := upO_bnd (acc := acc) (sym := sym) (i := b.orders.length) hr
    have e : upO b acc sym b.orders.length = ofE b acc sym := by unfold upO upF ofE; rw [List.take_length, List.take_length]
    rwa [e] at this
  · simp [Bnd]
end Go.Bk
