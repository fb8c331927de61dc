/- The document's way with a book, case by case. No program. -/
import Derived.Test.YtlhdnenlgceeeaaBkP
set_option linter.unusedVariables false
set_option linter.unusedSimpArgs false
namespace Go.Bk
theorem at_get {l : List Dn} {id : Bs} (h : ¬ atI l id < 0) : ∃ n f, atI l id = (n : Nat) ∧ atF l id = some n ∧ l[n]? = some f ∧ n < l.length := by
  rcases at_cases l id with ⟨e, _⟩ | ⟨n, o, e, e2, e3⟩
  · omega
  · exact ⟨n, o, e, e2, e3, get_lt e3⟩
theorem at_lt {l : List Dn} {id : Bs} (h : atI l id < 0) : atF l id = none := by
  rcases at_cases l id with ⟨_, e⟩ | ⟨n, o, e, _, _⟩
  · exact e
  · omega
theorem am_none {b : Bk} {x : Ex} (h : atI b.fills x.ref < 0) : amendF b x = (b, 6) := by unfold amendF; rw [at_lt h]
section
variable {b : Bk} {x : Ex} {n : Nat} {f : Dn}
theorem am_go (h : atF b.fills x.ref = some n) (h2 : b.fills[n]? = some f) : amendF b x =
    if f.live = false ∨ 10 < x.time - f.time then (b, 6)
    else if f.ord ≠ x.ord ∨ f.acc ≠ x.acc ∨ f.sym ≠ x.sym ∨ f.buy ≠ x.buy then (b, 3)
    else if x.kind = 7 then (⟨b.orders, b.fills.set n ⟨f.id, f.ord, f.acc, f.sym, f.buy, f.qty, f.price, f.time, false⟩, b.ids, b.clock, b.bad⟩, 0)
    else if f.qty < x.qty then (b, 4)
    else if (findF b.orders f.ord).2 = false ∨ fairF { (findF b.orders f.ord).1 with buy := f.buy } x.price = false then (b, 5)
    else (⟨b.orders, b.fills.set n ⟨f.id, f.ord, f.acc, f.sym, f.buy, x.qty, x.price, f.time, f.live⟩, b.ids, b.clock, b.bad⟩, 0) := by
  unfold amendF; rw [h]; simp only [getDD h2]
variable (h : atF b.fills x.ref = some n) (h2 : b.fills[n]? = some f)
include h h2
theorem am_6 (h3 : f.live = false ∨ 10 < x.time - f.time) : amendF b x = (b, 6) := by rw [am_go h h2, if_pos h3]
theorem am_3 (h3 : ¬ (f.live = false ∨ 10 < x.time - f.time)) (h4 : f.ord ≠ x.ord ∨ f.acc ≠ x.acc ∨ f.sym ≠ x.sym ∨ f.buy ≠ x.buy) : amendF b x = (b, 3) := by rw [am_go h h2, if_neg h3, if_pos h4]
theorem am_7 (h3 : ¬ (f.live = false ∨ 10 < x.time - f.time)) (h4 : ¬ (f.ord ≠ x.ord ∨ f.acc ≠ x.acc ∨ f.sym ≠ x.sym ∨ f.buy ≠ x.buy)) (h5 : x.kind = 7) : amendF b x = (⟨b.orders, b.fills.set n ⟨f.id, f.ord, f.acc, f.sym, f.buy, f.qty, f.price, f.time, false⟩, b.ids, b.clock, b.bad⟩, 0) := by rw [am_go h h2, if_neg h3, if_neg h4, if_pos h5]
theorem am_4 (h3 : ¬ (f.live = false ∨ 10 < x.time - f.time)) (h4 : ¬ (f.ord ≠ x.ord ∨ f.acc ≠ x.acc ∨ f.sym ≠ x.sym ∨ f.buy ≠ x.buy)) (h5 : ¬ x.kind = 7) (h6 : f.qty < x.qty) : amendF b x = (b, 4) := by rw [am_go h h2, if_neg h3, if_neg h4, if_neg h5, if_pos h6]
theorem am_5a (hr : rightO b.orders = true) (h3 : ¬ (f.live = false ∨ 10 < x.time - f.time)) (h4 : ¬ (f.ord ≠ x.ord ∨ f.acc ≠ x.acc ∨ f.sym ≠ x.sym ∨ f.buy ≠ x.buy)) (h5 : ¬ x.kind = 7) (h6 : ¬ f.qty < x.qty) (h7 : placeI b.orders f.ord < 0) : amendF b x = (b, 5) := by
  rw [am_go h h2, if_neg h3, if_neg h4, if_neg h5, if_neg h6, if_pos (.inl (by rw [find_no2 hr h7]))]
theorem am_5b {m : Nat} {o : Od} (hr : rightO b.orders = true) (h3 : ¬ (f.live = false ∨ 10 < x.time - f.time)) (h4 : ¬ (f.ord ≠ x.ord ∨ f.acc ≠ x.acc ∨ f.sym ≠ x.sym ∨ f.buy ≠ x.buy)) (h5 : ¬ x.kind = 7) (h6 : ¬ f.qty < x.qty) (h7 : placeI b.orders f.ord = m) (h8 : b.orders[m]? = some o)
    (h9 : f.buy = true ∧ o.price < x.price ∨ f.buy = false ∧ x.price < o.price) : amendF b x = (b, 5) := by
  rw [am_go h h2, if_neg h3, if_neg h4, if_neg h5, if_neg h6, if_pos (.inr (by
    rw [find_yes hr h7 h8]; rcases h9 with ⟨e, h9⟩ | ⟨e, h9⟩ <;> simp [fairF, e] <;> omega))]
theorem am_8 {m : Nat} {o : Od} (hr : rightO b.orders = true) (hs : smallB x.price = true) (h3 : ¬ (f.live = false ∨ 10 < x.time - f.time)) (h4 : ¬ (f.ord ≠ x.ord ∨ f.acc ≠ x.acc ∨ f.sym ≠ x.sym ∨ f.buy ≠ x.buy)) (h5 : ¬ x.kind = 7) (h6 : ¬ f.qty < x.qty) (h7 : placeI b.orders f.ord = m) (h8 : b.orders[m]? = some o)
    (h9 : f.buy = true ∧ ¬ o.price < x.price ∨ f.buy = false ∧ ¬ x.price < o.price) : amendF b x = (⟨b.orders, b.fills.set n ⟨f.id, f.ord, f.acc, f.sym, f.buy, x.qty, x.price, f.time, f.live⟩, b.ids, b.clock, b.bad⟩, 0) := by
  rw [am_go h h2, if_neg h3, if_neg h4, if_neg h5, if_neg h6, if_neg (by
    rw [find_yes hr h7 h8]; rcases h9 with ⟨e, h9⟩ | ⟨e, h9⟩ <;> simp [fairF, e, hs] <;> omega)]
end
section
variable {b : Bk} {x : Ex}
theorem aR_1 (h : x.time < b.clock) : applyR b x = (b, 1) := by unfold applyR; rw [if_pos h]
variable (h : ¬ x.time < b.clock)
include h
theorem aR_new (h1 : x.kind = 1) (h2 : (newO b.orders (orderOf x)).2 = 0) : applyR b x = (⟨(newO b.orders (orderOf x)).1, b.fills, b.ids, x.time, b.bad⟩, 0) := by unfold applyR; rw [if_neg h, if_pos h1, if_pos h2]
theorem aR_new2 (h1 : x.kind = 1) (h2 : ¬ (newO b.orders (orderOf x)).2 = 0) : applyR b x = (⟨b.orders, b.fills, b.ids, x.time, b.bad⟩, 2) := by unfold applyR; rw [if_neg h, if_pos h1, if_neg h2]
variable (h1 : ¬ x.kind = 1)
include h1
theorem aR_am (h2 : 6 < x.kind) : applyR b x = amendF ⟨b.orders, b.fills, b.ids, x.time, b.bad⟩ x := by unfold applyR; rw [if_neg h, if_neg h1, if_pos h2]
variable (h2 : ¬ 6 < x.kind) {id : Bs} (hid : (if x.kind = 4 then x.ref else x.ord) = id)
include h2 hid
theorem aR_none (h3 : openF b.orders id = none) : applyR b x = (⟨b.orders, b.fills, b.ids, x.time, b.bad⟩, 2) := by unfold applyR; rw [if_neg h, if_neg h1, if_neg h2, hid, h3]
variable {n : Nat} {o : Od} (h3 : openF b.orders id = some n) (h4 : b.orders[n]? = some o)
include h3 h4
theorem aR_3 (h5 : o.acc ≠ x.acc ∨ o.sym ≠ x.sym ∨ o.buy ≠ x.buy) : applyR b x = (⟨b.orders, b.fills, b.ids, x.time, b.bad⟩, 3) := by unfold applyR; rw [if_neg h, if_neg h1, if_neg h2, hid, h3]; simp only [getD_of h4]; rw [if_pos h5]
variable (h5 : ¬ (o.acc ≠ x.acc ∨ o.sym ≠ x.sym ∨ o.buy ≠ x.buy))
include h5
theorem aR_fill (h6 : x.kind = 2) (h7 : (fillO b.orders x.ord x.qty x.price).2 = 0) : applyR b x = (⟨(fillO b.orders x.ord x.qty x.price).1, b.fills ++ [doneOf x], b.ids, x.time, b.bad⟩, 0) := by
  unfold applyR; rw [if_neg h, if_neg h1, if_neg h2, hid, h3]; simp only [getD_of h4]; rw [if_neg h5, if_pos h6, if_pos h7]
theorem aR_fillE (h6 : x.kind = 2) (h7 : ¬ (fillO b.orders x.ord x.qty x.price).2 = 0) : applyR b x = (⟨b.orders, b.fills ++ [doneOf x], b.ids, x.time, b.bad⟩, errR (fillO b.orders x.ord x.qty x.price).2) := by
  unfold applyR; rw [if_neg h, if_neg h1, if_neg h2, hid, h3]; simp only [getD_of h4]; rw [if_neg h5, if_pos h6, if_neg h7]
theorem aR_change (h6 : x.kind = 4) (h7 : (changeO b.orders x.ref x.ord x.qty x.price).2 = 0) : applyR b x = (⟨(changeO b.orders x.ref x.ord x.qty x.price).1, b.fills, b.ids, x.time, b.bad⟩, 0) := by
  unfold applyR; rw [if_neg h, if_neg h1, if_neg h2, hid, h3]; simp only [getD_of h4]; rw [if_neg h5, if_neg (show ¬ x.kind = 2 by omega), if_pos h6, if_pos h7]
theorem aR_changeE (h6 : x.kind = 4) (h7 : ¬ (changeO b.orders x.ref x.ord x.qty x.price).2 = 0) : applyR b x = (⟨b.orders, b.fills, b.ids, x.time, b.bad⟩, errR (changeO b.orders x.ref x.ord x.qty x.price).2) := by
  unfold applyR; rw [if_neg h, if_neg h1, if_neg h2, hid, h3]; simp only [getD_of h4]; rw [if_neg h5, if_neg (show ¬ x.kind = 2 by omega), if_pos h6, if_neg h7]
theorem aR_close (hr : rightO b.orders = true) (h6 : ¬ x.kind = 2) (h7 : ¬ x.kind = 4) : applyR b x = (⟨b.orders.set n ⟨o.id, o.acc, o.sym, o.buy, o.qty, o.price, o.done, false⟩, b.fills, b.ids, x.time, b.bad⟩, 0) := by
  rw [if_neg h7] at hid
  subst hid
  unfold applyR; rw [if_neg h, if_neg h1, if_neg h2, if_neg h7, h3]; simp only [getD_of h4]; rw [if_neg h5, if_neg h6, if_neg h7, close_ok hr h3 h4, if_pos rfl]
end
theorem come_n {b : Bk} {x : Ex} (h : rightBk b = false ∨ execB x = false) : comeF b x = (b, 0) := by
  unfold comeF; rcases h with h | h <;> simp [h]
theorem come_y {b : Bk} {x : Ex} (h1 : rightBk b = true) (h2 : execB x = true) : comeF b x = takeF b x := by unfold comeF; simp [h1, h2]
end Go.Bk
