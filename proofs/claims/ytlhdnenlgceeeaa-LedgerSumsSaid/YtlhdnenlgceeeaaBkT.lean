/- No execution makes it worse but a new order, or a replacement. No program. -/
import Derived.Test.YtlhdnenlgceeeaaBkS
import Derived.Test.YtlhdnenlgceeeaaBkN
import Derived.Test.YtlhdnenlgceeeaaBkQ
set_option linter.unusedVariables false
set_option linter.unusedSimpArgs false
namespace Go.Bk
open Go Go.Abs
def LeW (a b : Ws) : Prop := a.1 ≤ b.1 ∧ a.2 ≤ b.2
theorem LeW.refl (a : Ws) : LeW a a := ⟨Int.le_refl _, Int.le_refl _⟩
theorem sum_le {α : Type} {f g : α → Ws} : ∀ {l : List α}, (∀ x ∈ l, LeW (f x) (g x)) → LeW (sumW (l.map f)) (sumW (l.map g))
  | [], _ => LeW.refl _
  | x :: l, h => by
    have h1 := h x (by simp)
    have h2 := sum_le (l := l) fun y hy => h y (by simp [hy])
    simp only [LeW, List.map_cons, sumW] at *; omega
theorem sum_set {α : Type} {f : α → Ws} : ∀ {l : List α} {n : Nat} {x y : α}, l[n]? = some x → sumW ((l.set n y).map f) = ((sumW (l.map f)).1 - (f x).1 + (f y).1, (sumW (l.map f)).2 - (f x).2 + (f y).2)
  | [], n, x, y, h => by simp at h
  | z :: l, 0, x, y, h => by
    simp only [List.getElem?_cons_zero, Option.some.injEq] at h; subst h
    simp only [List.set_cons_zero, List.map_cons, sumW]; exact Prod.ext (by simp only []; omega) (by simp only []; omega)
  | z :: l, n + 1, x, y, h => by
    simp only [List.getElem?_cons_succ] at h
    simp only [List.set_cons_succ, List.map_cons, sumW, sum_set h]; exact Prod.ext (by simp only []; omega) (by simp only []; omega)
theorem final_eq {b : Bk} {f : Dn} (h1 : 0 ≤ f.time) (h2 : f.time ≤ b.clock) (h3 : b.clock ≤ 4611686018427387904) : finalF b f = decide (10 < b.clock - f.time) := by
  unfold finalF; rw [if_neg (by omega), wrap64_id (by omega) (by omega)]
theorem side_ge {b : Bool} {q : Int} (h : 0 ≤ q) : LeW (0, 0) (sideW b q) := by unfold sideW LeW; cases b <;> simp [h]
theorem ordA_ge {acc sym : Bs} {o : Od} : LeW (0, 0) (ordA acc sym o) := by
  unfold ordA; split
  · exact side_ge (left_bnd o).1
  · exact LeW.refl _
theorem side_le {b : Bool} {p q : Int} (h : p ≤ q) : LeW (sideW b p) (sideW b q) := by unfold sideW LeW; cases b <;> simp [h]
theorem fillA_fin {acc sym : Bs} {f : Dn} (hq : 0 ≤ f.qty) {u v : Bool} (h : v = true → u = true) : LeW (fillA u acc sym f) (fillA v acc sym f) := by
  unfold fillA LeW
  split
  · cases f.buy <;> cases u <;> cases v <;> simp at * <;> omega
  · simp
/-- By how much it may get worse. -/
def moreA (acc sym : Bs) (x : Ex) : Ws := if (x.kind = 1 ∨ x.kind = 4) ∧ x.acc = acc ∧ x.sym = sym then sideW x.buy x.qty else (0, 0)
theorem moreA_ge {acc sym : Bs} {x : Ex} (h : 0 ≤ x.qty) : LeW (0, 0) (moreA acc sym x) := by
  unfold moreA; split
  · exact side_ge h
  · exact LeW.refl _
theorem fill_zero {l : List Od} {id : Bs} {q p : Int} (h : (fillO l id q p).2 = 0) : ∃ n o, rightO l = true ∧ openF l id = some n ∧ l[n]? = some o ∧ o.opn = true ∧ ¬ q < 1 ∧ ¬ leftF o < q ∧ (fillO l id q p).1 = l.set n ⟨o.id, o.acc, o.sym, o.buy, o.qty, o.price, o.done + q, decide (o.done + q < o.qty)⟩ := by
  cases hr : rightO l with
  | false => rw [fill_e1 hr] at h; simp at h
  | true =>
    cases ho : openF l id with
    | none => rw [fill_e6 hr ho] at h; simp at h
    | some n =>
      obtain ⟨o, g1, g2, g3, g4⟩ := openF_get ho
      by_cases h1 : q < 1 ∨ leftF o < q
      · rw [fill_e1' hr ho g1 h1] at h; simp at h
      · cases hf : fairF o p with
        | false => rw [fill_e9 hr ho g1 (by omega) (by omega) hf] at h; simp at h
        | true => exact ⟨n, o, rfl, rfl, g1, g3, by omega, by omega, by rw [fill_ok hr ho g1 (by omega) (by omega) hf]⟩
theorem change_zero {l : List Od} {a b : Bs} {q p : Int} (h : (changeO l a b q p).2 = 0) : ∃ n o, rightO l = true ∧ openF l a = some n ∧ l[n]? = some o ∧ o.opn = true ∧ (changeO l a b q p).1 = l.set n ⟨o.id, o.acc, o.sym, o.buy, o.qty, o.price, o.done, false⟩ ++ [⟨b, o.acc, o.sym, o.buy, q, p, o.done, decide (o.done < q)⟩] := by
  cases hr : rightO l with
  | false => rw [change_e1 hr] at h; simp at h
  | true =>
    cases ho : openF l a with
    | none => rw [change_e6 hr ho] at h; simp at h
    | some n =>
      obtain ⟨o, g1, g2, g3, g4⟩ := openF_get ho
      cases hm : mayB ⟨b, o.acc, o.sym, o.buy, q, p, o.done, decide (o.done < q)⟩ with
      | false => rw [change_e1' hr ho g1 hm] at h; simp at h
      | true =>
        by_cases h4 : 0 ≤ placeI l b
        · rw [change_e7 hr ho g1 hm h4] at h; simp at h
        · by_cases h5 : 64 ≤ l.length
          · rw [change_e5 hr ho g1 hm h4 h5] at h; simp at h
          · exact ⟨n, o, rfl, rfl, g1, g3, by rw [change_ok hr ho g1 hm h4 h5]⟩
theorem close_zero {l : List Od} {id : Bs} (h : (closeO l id).2 = 0) : ∃ n o, rightO l = true ∧ openF l id = some n ∧ l[n]? = some o ∧ o.opn = true ∧ (closeO l id).1 = l.set n ⟨o.id, o.acc, o.sym, o.buy, o.qty, o.price, o.done, false⟩ := by
  cases hr : rightO l with
  | false => rw [close_e1 hr] at h; simp at h
  | true =>
    cases ho : openF l id with
    | none => rw [close_e6 hr ho] at h; simp at h
    | some n =>
      obtain ⟨o, g1, g2, g3, g4⟩ := openF_get ho
      exact ⟨n, o, rfl, rfl, g1, g3, by rw [close_ok hr ho g1]⟩
theorem new_zero {l : List Od} {o : Od} (h : (newO l o).2 = 0) : (newO l o).1 = l ++ [⟨o.id, o.acc, o.sym, o.buy, o.qty, o.price, 0, true⟩] := by
  cases hr : rightO l with
  | false => rw [new_e1 hr] at h; simp at h
  | true =>
    cases hm : mayB ⟨o.id, o.acc, o.sym, o.buy, o.qty, o.price, 0, true⟩ with
    | false => rw [new_e1' hm] at h; simp at h
    | true =>
      by_cases h4 : 0 ≤ placeI l o.id
      · rw [new_e7 hr hm h4] at h; simp at h
      · by_cases h5 : 64 ≤ l.length
        · rw [new_e5 hr hm h4 h5] at h; simp at h
        · rw [new_ok hr hm h4 h5]
theorem left_shut (o : Od) : leftF ⟨o.id, o.acc, o.sym, o.buy, o.qty, o.price, o.done, false⟩ = 0 := by unfold leftF; simp
theorem ordA_shut {acc sym : Bs} (o : Od) : ordA acc sym ⟨o.id, o.acc, o.sym, o.buy, o.qty, o.price, o.done, false⟩ = (0, 0) := by
  unfold ordA; rw [left_shut]; split
  · unfold sideW; cases o.buy <;> simp
  · rfl
theorem left_may {o : Od} (h : mayB o = true) (h2 : o.opn = true) : leftF o = o.qty - o.done := by unfold leftF; simp [h, h2]
section
variable {b : Bk} {x : Ex} {acc sym : Bs}
theorem does_falls {c : Bk} {ids : List Bs} {fin : Dn → Bool} (hro : rightO b.orders = true) (hamt : ∀ f ∈ b.fills, 0 ≤ f.qty ∧ f.qty ≤ 1099511627776 ∧ 0 ≤ f.time ∧ f.time ≤ b.clock) (hcl : b.clock ≤ x.time) (hq : 0 ≤ x.qty) (hck : 0 ≤ x.time)
    (hfin : ∀ f : Dn, 0 ≤ f.time → f.time ≤ x.time → fin f = decide (10 < x.time - f.time)) (hd : Does ⟨b.orders, b.fills, ids, b.clock, b.bad⟩ x c) :
    LeW ((sumW (c.fills.map fun f => fillA (fin f) acc sym f)).1 + (sumW (c.orders.map (ordA acc sym))).1, (sumW (c.fills.map fun f => fillA (fin f) acc sym f)).2 + (sumW (c.orders.map (ordA acc sym))).2)
      ((sumW (b.fills.map fun f => fillA (fin f) acc sym f)).1 + (sumW (b.orders.map (ordA acc sym))).1 + (moreA acc sym x).1, (sumW (b.fills.map fun f => fillA (fin f) acc sym f)).2 + (sumW (b.orders.map (ordA acc sym))).2 + (moreA acc sym x).2) := by
  have hM := moreA_ge (acc := acc) (sym := sym) hq
  cases hd with
  | opens hk h0 =>
    (try simp only at h0); skip
    rw [new_zero h0, List.map_append, sumW_app]
    have : LeW (ordA acc sym ⟨(orderOf x).id, (orderOf x).acc, (orderOf x).sym, (orderOf x).buy, (orderOf x).qty, (orderOf x).price, 0, true⟩) (moreA acc sym x) := by
      unfold ordA moreA orderOf
      simp only
      by_cases hm : x.acc = acc ∧ x.sym = sym
      · rw [if_pos hm, if_pos ⟨.inl hk, hm⟩]
        exact side_le (by unfold leftF; split <;> (try simp only []) <;> omega)
      · rw [if_neg hm, if_neg (fun h => hm h.2)]; exact LeW.refl _
    simp only [LeW, List.map_cons, List.map_nil, sumW] at *; omega
  | busts hk n f hn hid hl ht ho ha hs hb =>
    (try simp only at hn); skip
    rw [sum_set hn]
    have hf := hamt f (List.mem_of_getElem? hn)
    have h1 : LeW (fillA (fin { f with live := false }) acc sym { f with live := false }) (fillA (fin f) acc sym f) := by
      rw [hfin f hf.2.2.1 (by omega), decide_eq_false (by omega)]
      unfold fillA LeW
      simp only [Bool.false_eq_true, false_and, if_false]
      split
      · cases f.buy <;> simp <;> omega
      · simp
    simp only [LeW] at *; omega
  | corrects hk n f hn hid hl ht ho ha hs hb hqq hf' hp =>
    (try simp only at hn); skip
    rw [sum_set hn]
    have hf := hamt f (List.mem_of_getElem? hn)
    have h1 : LeW (fillA (fin { f with qty := x.qty, price := x.price }) acc sym { f with qty := x.qty, price := x.price }) (fillA (fin f) acc sym f) := by
      rw [hfin f hf.2.2.1 (by omega), hfin { f with qty := x.qty, price := x.price } hf.2.2.1 (by show f.time ≤ x.time; omega)]
      simp only
      rw [decide_eq_false (by omega)]
      unfold fillA LeW
      simp only
      split
      · cases f.buy <;> simp <;> omega
      · simp
    simp only [LeW] at *; omega
  | fills hk h0 hf ho ha hs hb =>
    (try simp only at h0 hf ho ha hs hb); skip
    obtain ⟨n, o, _, g2, g3, g4, g5, g6, g7⟩ := fill_zero h0
    rw [find_some hro g2, getD_of g3] at ha hs hb
    rw [g7, sum_set g3, List.map_append, sumW_app]
    have hm := right_at hro g3
    have hroom := fill_room hm g5 g6
    have hl := left_may hm g4
    have hl2 : leftF ⟨o.id, o.acc, o.sym, o.buy, o.qty, o.price, o.done + x.qty, decide (o.done + x.qty < o.qty)⟩ = o.qty - o.done - x.qty := by
      by_cases hlt : o.done + x.qty < o.qty
      · rw [left_may (may_done hm (by omega) (by omega)) (by simp [hlt])]; simp only; omega
      · unfold leftF; simp [hlt]; omega
    have h1 : LeW ((ordA acc sym ⟨o.id, o.acc, o.sym, o.buy, o.qty, o.price, o.done + x.qty, decide (o.done + x.qty < o.qty)⟩).1 + (fillA (fin (doneOf x)) acc sym (doneOf x)).1, (ordA acc sym ⟨o.id, o.acc, o.sym, o.buy, o.qty, o.price, o.done + x.qty, decide (o.done + x.qty < o.qty)⟩).2 + (fillA (fin (doneOf x)) acc sym (doneOf x)).2) (ordA acc sym o) := by
      rw [hfin (doneOf x) hck (Int.le_refl _), show decide (10 < x.time - (doneOf x).time) = false from decide_eq_false (by show ¬ 10 < x.time - x.time; omega)]
      unfold ordA fillA doneOf
      simp only [hl2, hl, ← ha, ← hs, ← hb, true_and]
      split
      · unfold sideW LeW; cases o.buy <;> simp <;> omega
      · simp [LeW]
    simp only [LeW, List.map_cons, List.map_nil, sumW] at *; omega
  | changes hk h0 hf ho ha hs hb =>
    (try simp only at h0 hf ho ha hs hb); skip
    obtain ⟨n, o, _, g2, g3, g4, g7⟩ := change_zero h0
    rw [find_some hro g2, getD_of g3] at ha hs hb
    rw [g7, List.map_append, sumW_app, sum_set g3, ordA_shut]
    have hm := right_at hro g3
    have h2 := ordA_ge (acc := acc) (sym := sym) (o := o)
    have h1 : LeW (ordA acc sym ⟨x.ord, o.acc, o.sym, o.buy, x.qty, x.price, o.done, decide (o.done < x.qty)⟩) (moreA acc sym x) := by
      unfold ordA moreA
      simp only [← ha, ← hs, ← hb]
      by_cases hmm : o.acc = acc ∧ o.sym = sym
      · rw [if_pos hmm, if_pos ⟨.inr hk, hmm⟩]
        exact side_le (by
          simp only [mayB, Bool.and_eq_true, decide_eq_true_eq] at hm
          unfold leftF; split <;> (try simp only []) <;> omega)
      · rw [if_neg hmm, if_neg (fun h => hmm h.2)]; exact LeW.refl _
    simp only [LeW, List.map_cons, List.map_nil, sumW] at *; omega
  | closes hk h0 hf ho ha hs hb =>
    (try simp only at h0); skip
    obtain ⟨n, o, _, g2, g3, g4, g7⟩ := close_zero h0
    rw [g7, sum_set g3, ordA_shut]
    have h2 := ordA_ge (acc := acc) (sym := sym) (o := o)
    simp only [LeW] at *; omega
theorem falls (hr : rightBk b = true) (h : (comeF b x).2 = 1) : LeW (ofE (comeF b x).1 acc sym) ((ofE b acc sym).1 + (moreA acc sym x).1, (ofE b acc sym).2 + (moreA acc sym x).2) := by
  obtain ⟨hx, hbad, hid, c, e, hcl, hd⟩ := fresh_cases hr h
  have hrn := comeF_right (x := x) hr
  rw [e] at hrn ⊢
  have hsm := exec_small hx
  have hq : 0 ≤ x.qty := by have := hsm.1; simp only [smallB, Bool.and_eq_true, decide_eq_true_eq] at this; omega
  have hck : 0 ≤ x.time ∧ x.time ≤ 4611686018427387904 := hsm.2.2
  have hamt := right_amounts hr
  have hb0 := (rightBk_iff.1 hr).1
  let fin : Dn → Bool := fun f => finalF ⟨c.orders, c.fills, b.ids ++ [x.id], x.time, 0⟩ f
  have hfin : ∀ f : Dn, 0 ≤ f.time → f.time ≤ x.time → fin f = decide (10 < x.time - f.time) := fun f h1 h2 => final_eq h1 h2 hck.2
  -- a later clock alone
  have base : LeW (sumW (b.fills.map fun f => fillA (fin f) acc sym f)) (sumW (fillsA b acc sym b.fills)) := by
    refine sum_le fun f hf => ?_
    have ha := hamt f hf
    refine fillA_fin ha.1 fun hv => ?_
    rw [final_eq ha.2.2.1 ha.2.2.2 hb0.2.2.2.2.1, decide_eq_true_eq] at hv
    rw [hfin f ha.2.2.1 (by omega)]; simp; omega
  have hM := moreA_ge (acc := acc) (sym := sym) hq
  have hro := hb0.1
  have key := does_falls (acc := acc) (sym := sym) (fin := fin) hro hamt hcl hq hck.1 hfin hd
  have e1 : fillsA ⟨c.orders, c.fills, b.ids ++ [x.id], x.time, 0⟩ acc sym c.fills = c.fills.map fun f => fillA (fin f) acc sym f := rfl
  unfold ofE
  simp only [e1]
  simp only [LeW] at *; omega
/-- What isn't fresh leaves it as it was. -/
theorem stays_of (hr : rightBk b = true) (hl : b.ids.length < 256) (h : (comeF b x).2 ≠ 1) : ofF (comeF b x).1 acc sym = ofF b acc sym := by
  have hrn := comeF_right (x := x) hr
  have hF := stays_facts (x := x) hr hl
  have same : ∀ n : Bk, n.orders = b.orders → n.fills = b.fills → n.clock = b.clock → rightBk n = true → ofF n acc sym = ofF b acc sym := fun n h1 h2 h3 h4 => by
    unfold ofF; rw [if_pos h4, if_pos hr]; unfold ofE fillsA
    rw [h1, h2]
    have : ∀ f, finalF n f = finalF b f := fun f => by unfold finalF; rw [h3]
    simp only [this]
  cases hx : execB x with
  | false => rw [hF.1 hx]
  | true =>
    by_cases hb : b.bad = 0
    · by_cases hm : x.id ∈ b.ids
      · rw [hF.2.2.1 hx hb hm]
      · rcases (hF.2.2.2.1 hx hb hm).1 with ⟨_, _, _, h4⟩ | ⟨h4, _⟩
        · exact same _ (by have := congrArg Bk.orders h4; exact this) (by have := congrArg Bk.fills h4; exact this) (by have := congrArg Bk.clock h4; exact this) hrn
        · exact absurd h4 h
    · rw [hF.2.1 hx hb]
end
theorem of_bnd {b : Bk} {acc sym : Bs} : Bnd (ofF b acc sym) (320 * 1099511627776) := by
  unfold ofF
  split
  · rename_i hr
    have := upO_bnd (acc := acc) (sym := sym) (i := b.orders.length) hr
    have e : upO b acc sym b.orders.length = ofE b acc sym := by unfold upO upF ofE; rw [List.take_length, List.take_length]
    rwa [e] at this
  · simp [Bnd]
end Go.Bk
