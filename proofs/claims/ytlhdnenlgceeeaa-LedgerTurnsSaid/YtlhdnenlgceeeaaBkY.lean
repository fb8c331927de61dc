/- Positions of a book whose sides are exchanged, of one without its busted fills. No program. -/
import Derived.Test.YtlhdnenlgceeeaaBkV
set_option linter.unusedVariables false
set_option linter.unusedSimpArgs false
namespace Go.Bk
open Go Go.Abs
def trn (f : Dn) : Dn := ⟨f.id, f.ord, f.acc, f.sym, !f.buy, f.qty, f.price, f.time, f.live⟩
/-- The first sides exchanged. -/
def turnN (l : List Dn) (i : Nat) : List Dn := (l.take i).map trn ++ l.drop i
def liveN (l : List Dn) (i : Nat) : List Dn := (l.take i).filter (·.live)
theorem turnN_len (l : List Dn) (i : Nat) : (turnN l i).length = l.length := by unfold turnN; simp; omega
theorem turnN_zero (l : List Dn) : turnN l 0 = l := by simp [turnN]
theorem turnN_all {l : List Dn} {i : Nat} (h : l.length ≤ i) : turnN l i = l.map trn := by unfold turnN; rw [List.take_of_length_le h, List.drop_eq_nil_of_le h, List.append_nil]
theorem turnN_get {l : List Dn} {i : Nat} {f : Dn} (h : l[i]? = some f) : (turnN l i)[i]? = some f := by
  have hi := get_lt h
  unfold turnN
  rw [List.getElem?_append_right (by simp; omega), List.getElem?_drop]
  rw [List.length_map, List.length_take, show min i l.length = i by omega, show i + (i - i) = i by omega]; exact h
theorem turnN_next {l : List Dn} {i : Nat} {f : Dn} (h : l[i]? = some f) : (turnN l i).set i (trn f) = turnN l (i + 1) := by
  have hi := get_lt h
  unfold turnN
  rw [take_next h, drop_cons h, List.map_append, List.set_append_right _ _ (by simp; omega)]
  have : i - ((l.take i).map trn).length = 0 := by rw [List.length_map, List.length_take]; omega
  rw [this]; simp
theorem liveN_next {l : List Dn} {i : Nat} {f : Dn} (h : l[i]? = some f) (hl : f.live = true) : liveN l (i + 1) = liveN l i ++ [f] := by
  unfold liveN; rw [take_next h, List.filter_append]; simp [hl]
theorem liveN_skip {l : List Dn} {i : Nat} {f : Dn} (h : l[i]? = some f) (hl : f.live = false) : liveN l (i + 1) = liveN l i := by
  unfold liveN; rw [take_next h, List.filter_append]; simp [hl]
theorem liveN_len (l : List Dn) (i : Nat) : (liveN l i).length ≤ l.length := by
  have h := List.length_filter_le (fun f : Dn => f.live) (l.take i)
  rw [List.length_take] at h; unfold liveN; omega
theorem liveN_all {l : List Dn} {i : Nat} (h : l.length ≤ i) : liveN l i = l.filter (·.live) := by unfold liveN; rw [List.take_of_length_le h]
theorem mats_turn (acc sym : Bs) (l : List Dn) : matsF acc sym (l.map trn) = (matsF acc sym l).map trn := by
  unfold matsF; rw [List.filter_map]; congr 1
theorem mats_live (acc sym : Bs) (l : List Dn) : matsF acc sym (l.filter (·.live)) = matsF acc sym l := by
  unfold matsF; rw [List.filter_filter]
  refine List.filter_congr fun f _ => ?_
  unfold matB; cases f.live <;> simp
theorem sgn_trn (f : Dn) : sgn (trn f) = -sgn f := by unfold sgn trn; cases f.buy <;> simp
theorem numB_neg (n : Int) : numB (-n) = numB n := by
  unfold numB
  rw [show decide (-4611686018427387904 ≤ -n) = decide (n ≤ 4611686018427387904) from decide_eq_decide.2 (by omega), show decide (-n ≤ 4611686018427387904) = decide (-4611686018427387904 ≤ n) from decide_eq_decide.2 (by omega), Bool.and_comm]
theorem mulF_neg (a b : Int) : mulF (-a) b = (-(mulF a b).1, (mulF a b).2) := by
  unfold mulF; rw [Int.neg_mul, numB_neg, numB_neg]
  split <;> simp
theorem val_trn (f : Dn) : valF (trn f) = (-(valF f).1, (valF f).2) := by unfold valF; rw [sgn_trn]; exact mulF_neg _ _
theorem sumL_neg : ∀ l : List Int, sumL (l.map fun x => -x) = -sumL l
  | [] => rfl
  | x :: l => by simp only [List.map_cons, sumL, sumL_neg l]; omega
theorem sumF_neg (l : List Int) : sumF (l.map fun x => -x) = (-(sumF l).1, (sumF l).2) := by
  have e : (l.map fun x => -x).all numB = l.all numB := by rw [List.all_map]; congr 1; funext x; exact numB_neg x
  unfold sumF; rw [e, sumL_neg, numB_neg]
  split <;> simp
theorem posG_turn (acc sym : Bs) (m : List Dn) : posG acc sym (m.map trn) = ⟨acc, sym, -(posG acc sym m).qty, -(posG acc sym m).value, (posG acc sym m).over⟩ := by
  have e1 : (m.map trn).all (fun f => (valF f).2) = m.all (fun f => (valF f).2) := by rw [List.all_map]; congr 1; funext f; show (valF (trn f)).2 = _; rw [val_trn]
  have e2 : (m.map trn).map sgn = (m.map sgn).map fun x => -x := by rw [List.map_map, List.map_map]; exact List.map_congr_left fun f _ => sgn_trn f
  have e3 : (m.map trn).map (fun f => (valF f).1) = (m.map fun f => (valF f).1).map fun x => -x := by rw [List.map_map, List.map_map]; exact List.map_congr_left fun f _ => by show (valF (trn f)).1 = _; rw [val_trn]; rfl
  unfold posG; rw [e1, e2, e3, sumF_neg, sumF_neg]
  simp only []
  split <;> simp
section
variable {b : Bk} {acc sym : Bs}
theorem right_turn (hr : rightBk b = true) : rightBk ⟨b.orders, b.fills.map trn, b.ids, b.clock, b.bad⟩ = true := by
  have h := rightBk_iff.1 hr
  refine rightBk_iff.2 ⟨⟨h.1.1, by simpa using h.1.2.1, h.1.2.2⟩, h.2.1, fun f hf => ?_, ?_⟩
  · obtain ⟨g, hg, rfl⟩ := List.mem_map.1 hf
    exact h.2.2.1 g hg
  · have : (b.fills.map trn).map (·.id) = b.fills.map (·.id) := by rw [List.map_map]; exact List.map_congr_left fun f _ => rfl
    rw [this]; exact h.2.2.2
theorem right_live (hr : rightBk b = true) : rightBk ⟨b.orders, b.fills.filter (·.live), b.ids, b.clock, b.bad⟩ = true := by
  have h := rightBk_iff.1 hr
  have hs : (b.fills.filter (·.live)).Sublist b.fills := List.filter_sublist
  refine rightBk_iff.2 ⟨⟨h.1.1, Nat.le_trans (List.length_filter_le _ _) h.1.2.1, h.1.2.2⟩, h.2.1, fun f hf => ?_, ?_⟩
  · exact h.2.2.1 f (List.mem_filter.1 hf).1
  · exact (hs.map _).nodup h.2.2.2
theorem pos_turn (hr : rightBk b = true) : posF ⟨b.orders, b.fills.map trn, b.ids, b.clock, b.bad⟩ acc sym = ⟨acc, sym, -(posF b acc sym).qty, -(posF b acc sym).value, (posF b acc sym).over⟩ := by
  unfold posF; rw [if_pos hr, if_pos (right_turn hr)]
  show posG acc sym (matsF acc sym (b.fills.map trn)) = _
  rw [mats_turn, posG_turn]
theorem pos_live (hr : rightBk b = true) : posF ⟨b.orders, b.fills.filter (·.live), b.ids, b.clock, b.bad⟩ acc sym = posF b acc sym := by
  unfold posF; rw [if_pos hr, if_pos (right_live hr)]
  show posG acc sym (matsF acc sym (b.fills.filter (·.live))) = _
  rw [mats_live]
end
theorem sumF_bnd' (l : List Int) : -4611686018427387904 ≤ (sumF l).1 ∧ (sumF l).1 ≤ 4611686018427387904 := by
  unfold sumF
  split
  · rename_i h
    simp only [Bool.and_eq_true] at h
    exact numB_iff.1 h.2
  · simp
theorem pos_bnds (b : Bk) (acc sym : Bs) : (-4611686018427387904 ≤ (posF b acc sym).qty ∧ (posF b acc sym).qty ≤ 4611686018427387904) ∧ -4611686018427387904 ≤ (posF b acc sym).value ∧ (posF b acc sym).value ≤ 4611686018427387904 := by
  unfold posF posG
  split
  · split
    · exact ⟨sumF_bnd' _, sumF_bnd' _⟩
    · simp
  · simp
theorem pos_names (b : Bk) (acc sym : Bs) : (posF b acc sym).acc = acc ∧ (posF b acc sym).sym = sym := by
  unfold posF posG; split
  · split <;> exact ⟨rfl, rfl⟩
  · exact ⟨rfl, rfl⟩
end Go.Bk
