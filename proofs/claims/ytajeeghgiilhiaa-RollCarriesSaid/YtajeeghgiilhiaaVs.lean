/- Values of books, of lists of executions; small facts. -/
import Derived.Test.YtajeeghgiilhiaaN2
import Derived.Test.YtajeeghgiilhiaaN1b
import Derived.Test.YtajeeghgiilhiaaPm
import Derived.Test.YtajeeghgiilhiaaPq
set_option linter.unusedVariables false
set_option linter.unusedSimpArgs false
namespace Go.Proofs.Ytajeeghgiilhiaa
open Go Go.Abs Go.RowKit Go.Bk
abbrev bkV (b : Bk) : AV := .agg [odsV b.orders, dnsV b.fills, .sl none 1 (b.ids.map str), i64 b.clock, i64 b.bad]
abbrev exsV (l : List Ex) : AV := .sl none 10 (l.map exV)
theorem obl {X : List AV} {no nt : Nat} (h : (X.all fun e => e.leaves.all (AV.bel no nt)) = true) : ∀ es, some X = some es → ∀ e ∈ es, ∀ z ∈ e.leaves, z.bel no nt = true := by
  intro es he e h1 z hz
  rw [Option.some.injEq] at he; subst he
  exact List.all_eq_true.1 (List.all_eq_true.1 h e h1) z hz
theorem eq_no1 {α : Type} [DecidableEq α] {a b : List α} (h : ¬ a.length = b.length) : decide (a = b) = false := decide_eq_false fun e => h (by rw [e])
theorem eq_no2 {α : Type} [DecidableEq α] {a b : List α} {i : Nat} {x y : α} (h1 : a[i]? = some x) (h2 : b[i]? = some y) (h : x ≠ y) : decide (a = b) = false := decide_eq_false fun e => h (by rw [e, h2, Option.some.injEq] at h1; exact h1.symm)
theorem eq_yes {α : Type} [DecidableEq α] {a b : List α} {i : Nat} (h0 : a.length = b.length) (hi : a.length ≤ i) (h : a.take i = b.take i) : decide (a = b) = true := by
  rw [List.take_of_length_le hi, List.take_of_length_le (by omega)] at h
  exact decide_eq_true h
theorem eq_next {α : Type} {a b : List α} {i : Nat} {x y : α} (h1 : a[i]? = some x) (h2 : b[i]? = some y) (h : x = y) (h3 : a.take i = b.take i) : a.take (i + 1) = b.take (i + 1) := by rw [take_next h1, take_next h2, h3, h]
theorem od_eq {x y : Od} (h : x.id = y.id ∧ x.acc = y.acc ∧ x.sym = y.sym ∧ x.buy = y.buy ∧ x.qty = y.qty ∧ x.price = y.price ∧ x.done = y.done ∧ x.opn = y.opn) : x = y := by
  obtain ⟨a, b, c, d, e, f, g, i⟩ := x
  obtain ⟨h1, h2, h3, h4, h5, h6, h7, h8⟩ := h
  dsimp only at *
  subst h1; subst h2; subst h3; subst h4; subst h5; subst h6; subst h7; subst h8; rfl
theorem od_ne {x y : Od} (h : x.id = y.id → x.acc = y.acc → x.sym = y.sym → x.buy = y.buy → x.qty = y.qty → x.price = y.price → x.done = y.done → ¬ x.opn = y.opn) : x ≠ y := by
  rintro rfl; exact h rfl rfl rfl rfl rfl rfl rfl rfl
theorem dn_eq {x y : Dn} (h : x.id = y.id ∧ x.ord = y.ord ∧ x.acc = y.acc ∧ x.sym = y.sym ∧ x.buy = y.buy ∧ x.qty = y.qty ∧ x.price = y.price ∧ x.time = y.time ∧ x.live = y.live) : x = y := by
  obtain ⟨a, b, c, d, e, f, g, i, j⟩ := x
  obtain ⟨h1, h2, h3, h4, h5, h6, h7, h8, h9⟩ := h
  dsimp only at *
  subst h1; subst h2; subst h3; subst h4; subst h5; subst h6; subst h7; subst h8; subst h9; rfl
theorem dn_ne {x y : Dn} (h : x.id = y.id → x.ord = y.ord → x.acc = y.acc → x.sym = y.sym → x.buy = y.buy → x.qty = y.qty → x.price = y.price → x.time = y.time → ¬ x.live = y.live) : x ≠ y := by
  rintro rfl; exact h rfl rfl rfl rfl rfl rfl rfl rfl rfl
theorem same_b (p q : Bk) : decide (p = q) = (decide (p.orders = q.orders) && decide (p.fills = q.fills) && decide (p.ids = q.ids) && decide (p.clock = q.clock) && decide (p.bad = q.bad)) := by
  obtain ⟨a, b, c, d, e⟩ := p
  obtain ⟨a', b', c', d', e'⟩ := q
  simp [Bool.and_assoc]
theorem rem_lt {u i : Nat} (hi : i < 1000) : (Int.tmod (u : Int) ((i : Int) + 1)) = ((u % (i + 1) : Nat) : Int) := by
  rw [Int.tmod_eq_emod_of_nonneg (by omega)]; exact (Int.natCast_emod u (i + 1)).symm
theorem mem_take {l : List Ex} {i j : Nat} {x : Ex} (h : l[j]? = some x) (hj : j < i + 1) : x ∈ l.take (i + 1) := List.mem_iff_getElem?.2 ⟨j, by rw [List.getElem?_take, if_pos hj]; exact h⟩
theorem ex_eq {x y : Ex} (h : x.id = y.id ∧ x.ref = y.ref ∧ x.ord = y.ord ∧ x.acc = y.acc ∧ x.sym = y.sym ∧ x.kind = y.kind ∧ x.buy = y.buy ∧ x.qty = y.qty ∧ x.price = y.price ∧ x.time = y.time) : x = y := by
  obtain ⟨a, b, c, d, e, f, g, i, j, k⟩ := x
  obtain ⟨h1, h2, h3, h4, h5, h6, h7, h8, h9, h10⟩ := h
  dsimp only at *
  subst h1; subst h2; subst h3; subst h4; subst h5; subst h6; subst h7; subst h8; subst h9; subst h10; rfl
theorem ex_ne {x y : Ex} (h : x.id = y.id → x.ref = y.ref → x.ord = y.ord → x.acc = y.acc → x.sym = y.sym → x.kind = y.kind → x.buy = y.buy → x.qty = y.qty → x.price = y.price → ¬ x.time = y.time) : x ≠ y := by
  rintro rfl; exact h rfl rfl rfl rfl rfl rfl rfl rfl rfl rfl
theorem right_fy {b : Bk} (h : rightBk b = true) : True ∧ (b.orders.length ≤ 64 ∧ b.fills.length ≤ 256 ∧ b.ids.length ≤ 256) ∧ ∀ f ∈ b.fills, 0 ≤ f.time ∧ f.time ≤ 4611686018427387904 := by
  have h1 := rightBk_iff.1 h
  refine ⟨trivial, ⟨right_len h1.1.1, h1.1.2.1, h1.1.2.2.1⟩, fun f hf => ?_⟩
  have h2 := h1.2.2.1 f hf
  simp only [fillB, Bool.and_eq_true, decide_eq_true_eq] at h2
  omega
theorem bel_dns {no nt m : Nat} {l : List Dn} : ∀ es, some (l.map dnV ++ spare 9 m) = some es → ∀ e ∈ es, ∀ z ∈ e.leaves, z.bel no nt = true := bel_row fun x z hz => by
  simp only [AV.leaves, List.mem_cons, List.not_mem_nil, or_false] at hz
  rcases hz with rfl | rfl | rfl | rfl | rfl | rfl | rfl | rfl | rfl <;> rfl
theorem row_turn {l : List Dn} {i m : Nat} {f : Dn} (h : l[i]? = some f) : ((turnN l i).map dnV ++ spare 9 m).set i (AV.agg [str f.id, str f.ord, str f.acc, str f.sym, bl (!f.buy), i64 f.qty, i64 f.price, i64 f.time, bl f.live]) = (turnN l (i + 1)).map dnV ++ spare 9 m := by
  have hi := get_lt h
  rw [List.set_append_left _ _ (by rw [List.length_map, turnN_len]; exact hi), ← turnN_next h, List.map_set]; rfl
theorem tr_take {l : List Dn} {m : Nat} : ((l.map trn).map dnV ++ spare 9 m).take l.length = (l.map trn).map dnV := List.take_left' (by simp)
end Go.Proofs.Ytajeeghgiilhiaa
