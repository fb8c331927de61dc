/- What may come at the worst, told by the book. No program. -/
import Derived.Test.YtlhdnenlgceeeaaBkK
import Derived.Test.YtlhdnenlgceeeaaLc
set_option linter.unusedVariables false
set_option linter.unusedSimpArgs false
namespace Go.Bk
open Go Go.Abs
abbrev Ws := Int × Int
def plusW (a b : Ws) : Ws := (IntKind.i64.wrap (a.1 + b.1), IntKind.i64.wrap (a.2 + b.2))
def sideW (buy : Bool) (q : Int) : Ws := if buy then (q, 0) else (0, q)
def finalF (b : Bk) (f : Dn) : Bool := if f.time < 0 ∨ 4611686018427387904 < f.time then false else decide (10 < IntKind.i64.wrap (b.clock - f.time))
/-- What a fill adds, what an order adds. -/
def fillA (fin : Bool) (acc sym : Bs) (f : Dn) : Ws := if f.live = true ∧ f.acc = acc ∧ f.sym = sym then (if f.buy then (f.qty, if fin then -f.qty else 0) else (if fin then -f.qty else 0, f.qty)) else (0, 0)
def ordA (acc sym : Bs) (o : Od) : Ws := if o.acc = acc ∧ o.sym = sym then sideW o.buy (leftF o) else (0, 0)
def pendA (acc sym : Bs) (o : Od) : Ws := if o.acc = acc ∧ o.sym = sym then sideW o.buy (o.qty - o.done) else (0, 0)
def sumW : List Ws → Ws
  | [] => (0, 0)
  | x :: l => (x.1 + (sumW l).1, x.2 + (sumW l).2)
theorem sumW_app (l m : List Ws) : sumW (l ++ m) = ((sumW l).1 + (sumW m).1, (sumW l).2 + (sumW m).2) := by
  induction l with
  | nil => simp [sumW]
  | cons x l ih => simp only [List.cons_append, sumW, ih]; exact Prod.ext (by simp only []; omega) (by simp only []; omega)
def fillsA (b : Bk) (acc sym : Bs) (l : List Dn) : List Ws := l.map fun f => fillA (finalF b f) acc sym f
def ofE (b : Bk) (acc sym : Bs) : Ws := ((sumW (fillsA b acc sym b.fills)).1 + (sumW (b.orders.map (ordA acc sym))).1, (sumW (fillsA b acc sym b.fills)).2 + (sumW (b.orders.map (ordA acc sym))).2)
def ofF (b : Bk) (acc sym : Bs) : Ws := if rightBk b then ofE b acc sym else (0, 0)
def pendF (l : List Od) (acc sym : Bs) : Ws := if rightO l then sumW (l.map (pendA acc sym)) else (0, 0)
def Bnd (w : Ws) (n : Int) : Prop := -n ≤ w.1 ∧ w.1 ≤ n ∧ -n ≤ w.2 ∧ w.2 ≤ n
theorem sum_bnd {l : List Ws} {c : Int} (hc : 0 ≤ c) (h : ∀ w ∈ l, Bnd w c) : Bnd (sumW l) (l.length * c) := by
  induction l with
  | nil => simp [sumW, Bnd]
  | cons x l ih =>
    have h1 := h x (by simp)
    have h2 := ih fun w hw => h w (by simp [hw])
    simp only [Bnd, sumW, List.length_cons] at *
    rw [show (((l.length + 1 : Nat) : Int)) * c = l.length * c + c by rw [Int.natCast_add, Int.add_mul]; simp]
    omega
theorem side_bnd {b : Bool} {q c : Int} (h : 0 ≤ q) (h2 : q ≤ c) : Bnd (sideW b q) c := by
  unfold sideW Bnd; cases b <;> simp <;> omega
theorem fillA_bnd {fin : Bool} {acc sym : Bs} {f : Dn} (h : 0 ≤ f.qty) (h2 : f.qty ≤ 1099511627776) : Bnd (fillA fin acc sym f) 1099511627776 := by
  unfold fillA Bnd
  split
  · cases f.buy <;> cases fin <;> simp <;> omega
  · simp
theorem left_bnd (o : Od) : 0 ≤ leftF o ∧ leftF o ≤ 1099511627776 := by
  unfold leftF
  split
  · rename_i h
    simp only [mayB, smallB, Bool.and_eq_true, decide_eq_true_eq] at h; omega
  · omega
theorem ordA_bnd {acc sym : Bs} {o : Od} : Bnd (ordA acc sym o) 1099511627776 := by
  unfold ordA
  split
  · exact side_bnd (left_bnd o).1 (left_bnd o).2
  · simp [Bnd]
theorem plus_eq {a b : Ws} {n m : Int} (h1 : Bnd a n) (h2 : Bnd b m) (h : n + m ≤ 9000000000000000000) : plusW a b = (a.1 + b.1, a.2 + b.2) := by
  simp only [Bnd] at h1 h2
  unfold plusW
  rw [wrap64_id (by omega) (by omega), wrap64_id (by omega) (by omega)]
section
variable {b : Bk} {acc sym : Bs} {i : Nat} {f : Dn} {w : Ws}
/-- The sum so far. -/
def upF (b : Bk) (acc sym : Bs) (i : Nat) : Ws := sumW (fillsA b acc sym (b.fills.take i))
def upO (b : Bk) (acc sym : Bs) (i : Nat) : Ws := ((upF b acc sym b.fills.length).1 + (sumW ((b.orders.take i).map (ordA acc sym))).1, (upF b acc sym b.fills.length).2 + (sumW ((b.orders.take i).map (ordA acc sym))).2)
theorem right_amounts (hr : rightBk b = true) : ∀ f ∈ b.fills, 0 ≤ f.qty ∧ f.qty ≤ 1099511627776 ∧ 0 ≤ f.time ∧ f.time ≤ b.clock := by
  intro f hf
  have h := (rightBk_iff.1 hr).2.2.1 f hf
  simp only [fillB, smallB, Bool.and_eq_true, decide_eq_true_eq] at h
  omega
theorem upF_bnd (hr : rightBk b = true) : Bnd (upF b acc sym i) (256 * 1099511627776) := by
  have h1 : ∀ x ∈ fillsA b acc sym (b.fills.take i), Bnd x 1099511627776 := by
    intro x hx
    obtain ⟨f, hf, rfl⟩ := List.mem_map.1 hx
    have := right_amounts hr f (List.mem_of_mem_take hf)
    exact fillA_bnd this.1 this.2.1
  have h2 := sum_bnd (by omega) h1
  have h3 : (fillsA b acc sym (b.fills.take i)).length ≤ 256 := by
    have := (rightBk_iff.1 hr).1.2.1
    simp only [fillsA, List.length_map, List.length_take]; omega
  simp only [Bnd, upF] at *
  omega
theorem upF_next (hb : b.fills[i]? = some f) : upF b acc sym (i + 1) = ((upF b acc sym i).1 + (fillA (finalF b f) acc sym f).1, (upF b acc sym i).2 + (fillA (finalF b f) acc sym f).2) := by
  unfold upF fillsA
  rw [take_next hb, List.map_append, sumW_app]
  simp [sumW]
theorem up_no (hb : b.fills[i]? = some f) (hw : w = upF b acc sym i) (h : ¬ (f.live = true ∧ f.acc = acc ∧ f.sym = sym)) : w = upF b acc sym (i + 1) := by
  rw [upF_next hb, hw]; unfold fillA; rw [if_neg h]; simp
theorem up_yes (hr : rightBk b = true) (hb : b.fills[i]? = some f) (hw : w = upF b acc sym i) (h : f.live = true ∧ f.acc = acc ∧ f.sym = sym) (hf : finalF b f = false) : plusW w (sideW f.buy f.qty) = upF b acc sym (i + 1) := by
  have ha := right_amounts hr f (List.mem_of_getElem? hb)
  rw [upF_next hb, hw, plus_eq (upF_bnd hr) (side_bnd ha.1 ha.2.1) (by omega)]; unfold fillA sideW; rw [if_pos h, hf]; cases f.buy <;> simp
theorem up_fin (hr : rightBk b = true) (hb : b.fills[i]? = some f) (hw : w = upF b acc sym i) (h : f.live = true ∧ f.acc = acc ∧ f.sym = sym) (hf : finalF b f = true) : plusW (plusW w (sideW f.buy f.qty)) (sideW (!f.buy) (IntKind.i64.wrap (0 - f.qty))) = upF b acc sym (i + 1) := by
  have ha := right_amounts hr f (List.mem_of_getElem? hb)
  have h1 := upF_bnd (acc := acc) (sym := sym) (i := i) hr
  have h2 : Bnd (sideW f.buy f.qty) 1099511627776 := side_bnd ha.1 ha.2.1
  have hn : IntKind.i64.wrap (0 - f.qty) = -f.qty := by rw [wrap64_id (by omega) (by omega)]; omega
  have h3 : Bnd (sideW (!f.buy) (-f.qty)) 1099511627776 := by unfold sideW Bnd; cases f.buy <;> simp <;> omega
  rw [upF_next hb, hw, plus_eq h1 h2 (by omega), hn, plus_eq (n := 257 * 1099511627776) (by simp only [Bnd] at *; omega) h3 (by omega)]
  unfold fillA sideW; rw [if_pos h, hf]; cases f.buy <;> simp
theorem upO_bnd (hr : rightBk b = true) : Bnd (upO b acc sym i) (320 * 1099511627776) := by
  have h1 := upF_bnd (acc := acc) (sym := sym) (i := b.fills.length) hr
  have h2 : Bnd (sumW ((b.orders.take i).map (ordA acc sym))) (((b.orders.take i).map (ordA acc sym)).length * 1099511627776) := sum_bnd (by omega) (fun x hx => by
    obtain ⟨o, _, rfl⟩ := List.mem_map.1 hx; exact ordA_bnd)
  have h3 : ((b.orders.take i).map (ordA acc sym)).length ≤ 64 := by
    have := right_len (rightBk_iff.1 hr).1.1
    simp only [List.length_map, List.length_take]; omega
  simp only [Bnd, upO] at *
  omega
variable {o : Od}
theorem upO_zero (hi : b.fills.length ≤ i) (hw : w = upF b acc sym i) : w = upO b acc sym 0 := by
  rw [hw]; unfold upO upF; rw [List.take_of_length_le hi, List.take_length]; simp [sumW]
theorem upO_next (hb : b.orders[i]? = some o) : upO b acc sym (i + 1) = ((upO b acc sym i).1 + (ordA acc sym o).1, (upO b acc sym i).2 + (ordA acc sym o).2) := by
  unfold upO
  rw [take_next hb, List.map_append, sumW_app]
  simp [sumW, Int.add_assoc]
theorem upO_no (hb : b.orders[i]? = some o) (hw : w = upO b acc sym i) (h : ¬ (o.acc = acc ∧ o.sym = sym)) : w = upO b acc sym (i + 1) := by
  rw [upO_next hb, hw]; unfold ordA; rw [if_neg h]; simp
theorem upO_yes (hr : rightBk b = true) (hb : b.orders[i]? = some o) (hw : w = upO b acc sym i) (h : o.acc = acc ∧ o.sym = sym) : plusW w (sideW o.buy (leftF o)) = upO b acc sym (i + 1) := by
  rw [upO_next hb, hw, plus_eq (upO_bnd hr) (side_bnd (left_bnd o).1 (left_bnd o).2) (by omega)]; unfold ordA; rw [if_pos h]
theorem upO_end (hr : rightBk b = true) (hi : b.orders.length ≤ i) (hw : w = upO b acc sym i) : w = ofF b acc sym := by
  rw [hw]; unfold upO ofF upF; rw [List.take_of_length_le hi, List.take_length, if_pos hr]; rfl
end
end Go.Bk
