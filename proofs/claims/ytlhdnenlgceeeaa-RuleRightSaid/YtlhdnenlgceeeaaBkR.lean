/- The first fault of a log, the document's way. No program. -/
import Derived.Test.YtlhdnenlgceeeaaBkN
import Derived.Test.YtlhdnenlgceeeaaPm
set_option linter.unusedVariables false
set_option linter.unusedSimpArgs false
namespace Go.Bk
/-- How a log stands that has kept the rules so far. -/
structure Kept (l : List Ex) (i : Nat) : Prop where
  ids : (bookAt l i).ids = (l.take i).map (·.id)
  bad : (bookAt l i).bad = 0
  flt : faultGo (bookAt l i) i (l.drop i) = faultF l
theorem Kept.zero (l : List Ex) : Kept l 0 := ⟨rfl, rfl, rfl⟩
section
variable {l : List Ex} {i : Nat} {x : Ex}
theorem Kept.len (h : Kept l i) (hi : i ≤ l.length) : (bookAt l i).ids.length = i := by rw [h.ids, List.length_map, List.length_take]; omega
theorem kept_go (hb : l[i]? = some x) (h : Kept l i) : faultF l = if execB x = false then ((i : Int), 8) else if (comeF (bookAt l i) x).2 = 1 then faultGo (comeF (bookAt l i) x).1 (i + 1) (l.drop (i + 1)) else if (comeF (bookAt l i) x).2 = 3 then ((i : Int), (comeF (bookAt l i) x).1.bad) else ((i : Int), 7) := by
  rw [← h.flt, drop_cons hb]; rfl
theorem kept_8 (hb : l[i]? = some x) (h : Kept l i) (hx : execB x = false) : faultF l = ((i : Int), 8) := by rw [kept_go hb h, if_pos hx]
theorem kept_full (hb : l[i]? = some x) (h : Kept l i) (hx : execB x = true) (hi : i ≤ l.length) (h2 : 256 ≤ i) : faultF l = ((i : Int), 7) := by
  have hc : comeF (bookAt l i) x = (bookAt l i, 4) := by
    unfold comeF; rw [bookAt_right, hx]
    simp only [Bool.and_self, if_true]
    unfold takeF; rw [if_pos (.inr (by rw [h.len hi]; exact h2))]
  rw [kept_go hb h, if_neg (by simp [hx]), hc, if_neg (by simp), if_neg (by simp)]
theorem kept_dup (hb : l[i]? = some x) (h : Kept l i) (hx : execB x = true) (hi : i ≤ l.length) (h2 : ¬ 256 ≤ i) {k : Nat} {y : Ex} (hk : k < i) (hy : l[k]? = some y) (e : y.id = x.id) : faultF l = ((i : Int), 7) := by
  have hm : x.id ∈ (bookAt l i).ids := by
    rw [h.ids, List.mem_map]
    exact ⟨y, List.mem_iff_getElem?.2 ⟨k, by rw [List.getElem?_take, if_pos hk]; exact hy⟩, e⟩
  have hc := (stays_facts (x := x) (bookAt_right l i) (by rw [h.len hi]; omega)).2.2.1 hx h.bad hm
  rw [kept_go hb h, if_neg (by simp [hx]), hc, if_neg (by simp), if_neg (by simp)]
theorem kept_new (hb : l[i]? = some x) (h : Kept l i) (hx : execB x = true) (hi : i ≤ l.length) (h2 : ¬ 256 ≤ i) (hno : ∀ y ∈ l.take i, ¬ y.id = x.id) :
    ((allF (l.take (i + 1))).bad = 0 → Kept l (i + 1)) ∧ (¬ (allF (l.take (i + 1))).bad = 0 → faultF l = ((i : Int), (allF (l.take (i + 1))).bad)) := by
  have hm : x.id ∉ (bookAt l i).ids := by
    rw [h.ids, List.mem_map]
    rintro ⟨y, hy, e⟩
    exact hno y hy e
  have hc := ((stays_facts (x := x) (bookAt_right l i) (by rw [h.len hi]; omega)).2.2.2.1 hx h.bad hm).1
  rw [← bookAt_all, bookAt_succ hb]
  rcases hc with ⟨h3, h4, _⟩ | ⟨h3, h4, _⟩
  · refine ⟨fun e => by omega, fun _ => ?_⟩
    rw [kept_go hb h, if_neg (by simp [hx]), h3, if_neg (by decide), if_pos rfl]
  · refine ⟨fun _ => ?_, fun e => absurd h4 e⟩
    obtain ⟨_, _, _, c, e, _⟩ := fresh_cases (bookAt_right l i) h3
    refine ⟨?_, by rw [bookAt_succ hb]; exact h4, ?_⟩
    · rw [bookAt_succ hb, e, take_next hb, List.map_append, ← h.ids]; rfl
    · rw [bookAt_succ hb, kept_go hb h, if_neg (by simp [hx]), if_pos h3]; rfl
theorem kept_end (h : Kept l i) (hi : i ≤ l.length) (h2 : ¬ i < l.length) : faultF l = ((l.length : Int), 0) := by
  have e : i = l.length := by omega
  have := h.flt
  rw [e, List.drop_length] at this
  rw [← this]; rfl
end
def beginsF (p q : List Ex) : Bool := decide (p.length ≤ q.length) && decide (p = q.take p.length)
theorem begins_no1 {p q : List Ex} (h : q.length < p.length) : beginsF p q = false := by
  unfold beginsF; rw [decide_eq_false (by omega)]; rfl
theorem begins_no2 {p q : List Ex} {i : Nat} {x y : Ex} (h1 : p[i]? = some x) (h2 : q[i]? = some y) (h : x ≠ y) : beginsF p q = false := by
  have : ¬ p = q.take p.length := fun e => by
    have hi := (List.getElem?_eq_some_iff.1 h1).1
    rw [e, List.getElem?_take, if_pos hi, h2] at h1
    exact h (Option.some.inj h1).symm
  unfold beginsF; rw [decide_eq_false this, Bool.and_false]
theorem begins_yes {p q : List Ex} {i : Nat} (h0 : p.length ≤ q.length) (hi : p.length ≤ i) (hi2 : i ≤ p.length) (h : p.take i = q.take i) : beginsF p q = true := by
  have e : i = p.length := by omega
  rw [e, List.take_length] at h
  unfold beginsF; rw [decide_eq_true h0, decide_eq_true h]; rfl
end Go.Bk
