/- Boards: their names; the document's way to them. No program. -/
import Derived.Test.YtceiiajacnihjaaC1
set_option linter.unusedVariables false
set_option linter.unusedSimpArgs false
namespace Go.Proofs.Ytceiiajacnihjaa
open Go Go.Bk
def goodN (x : Bs) : Bool := decide (x ≠ []) && decide (x.length ≤ 16)
def newS (l : List Bs) : Option (List Bs) := if 1 ≤ l.length ∧ l.length ≤ 16 ∧ l.all goodN = true ∧ l.Nodup then some (srt l) else none
theorem srt_len (l : List Bs) : (srt l).length = l.length := List.length_mergeSort l
theorem new_len {l : List Bs} (h : l.length < 1 ∨ 16 < l.length) : newS l = none := by unfold newS; rw [if_neg (by omega)]
theorem new_bad1 {l : List Bs} {i : Nat} {x : Bs} (h : (srt l)[i]? = some x) (hx : goodN x = false) : newS l = none := by
  unfold newS
  rw [if_neg]
  rintro ⟨_, _, h3, _⟩
  have := List.all_eq_true.1 h3 x (mem_srt.1 (List.mem_of_getElem? h))
  rw [hx] at this; simp at this
theorem twice_of : ∀ {s : List Bs} {i : Nat} {x : Bs}, s[i]? = some x → s[i + 1]? = some x → twiceB s = true
  | [], _, _, h, _ => by simp at h
  | [a], 0, _, _, h => by simp at h
  | [a], i + 1, _, h, _ => by simp at h
  | a :: b :: l, 0, x, h1, h2 => by
    simp at h1 h2; subst h1; subst h2; simp [twiceB]
  | a :: b :: l, i + 1, x, h1, h2 => by
    have := twice_of (s := b :: l) (i := i) (by simpa using h1) (by simpa using h2)
    simp [twiceB, this]
theorem twice_not : ∀ {s : List Bs}, (∀ i x y, s[i]? = some x → s[i + 1]? = some y → x ≠ y) → twiceB s = false
  | [], _ => rfl
  | [a], _ => rfl
  | a :: b :: l, h => by
    have h1 := h 0 a b rfl rfl
    have h2 := twice_not (s := b :: l) (fun i x y e1 e2 => h (i + 1) x y (by simpa using e1) (by simpa using e2))
    simp [twiceB, h2, Ne.symm h1]
theorem new_bad2 {l : List Bs} {i : Nat} {x : Bs} (hi : 0 < i) (h : (srt l)[i]? = some x) (h2 : (srt l)[i - 1]? = some x) : newS l = none := by
  have ht : twiceB (srt l) = true := twice_of (i := i - 1) h2 (by rw [show i - 1 + 1 = i by omega]; exact h)
  rw [twiceB_srt] at ht
  unfold newS
  rw [if_neg]
  rintro ⟨_, _, _, h4⟩
  simp [h4] at ht
/-- What has been looked at so far. -/
def okTo (s : List Bs) (i : Nat) : Prop := ∀ j, j < i → ∀ x, s[j]? = some x → goodN x = true ∧ (0 < j → ∀ y, s[j - 1]? = some y → y ≠ x)
theorem okTo_next {s : List Bs} {i : Nat} {x : Bs} (h : okTo s i) (hx : s[i]? = some x) (h1 : goodN x = true) (h2 : 0 < i → ∀ y, s[i - 1]? = some y → y ≠ x) : okTo s (i + 1) := by
  intro j hj z hz
  by_cases e : j = i
  · subst e; rw [hx] at hz; simp only [Option.some.injEq] at hz; subst hz; exact ⟨h1, h2⟩
  · exact h j (by omega) z hz
theorem new_ok {l : List Bs} {i : Nat} (h1 : 1 ≤ l.length) (h2 : l.length ≤ 16) (hi : (srt l).length ≤ i) (h : okTo (srt l) i) : newS l = some (srt l) := by
  unfold newS
  rw [if_pos]
  refine ⟨h1, h2, List.all_eq_true.2 fun x hx => ?_, ?_⟩
  · obtain ⟨j, hj⟩ := List.mem_iff_getElem?.1 (mem_srt.2 hx)
    exact (h j (by have := (List.getElem?_eq_some_iff.1 hj).1; omega) x hj).1
  · have : twiceB (srt l) = false := twice_not fun j x y e1 e2 => (h (j + 1) (by have := (List.getElem?_eq_some_iff.1 e2).1; omega) y e2).2 (by omega) x (by simpa using e1)
    rw [twiceB_srt] at this
    simpa using this
theorem new_some {l s : List Bs} (h : newS l = some s) : s = srt l ∧ 1 ≤ l.length ∧ l.length ≤ 16 ∧ l.all goodN = true ∧ l.Nodup := by
  unfold newS at h
  split at h
  · rename_i hh; exact ⟨(Option.some.inj h).symm, hh⟩
  · simp at h
theorem srt_eq {l s : List Bs} (hp : s.Perm l) (hs : s.Pairwise (fun a b => a ≤ b)) : srt l = s := by
  refine List.Perm.eq_of_pairwise (le := fun a b : Bs => a ≤ b) (fun a b _ _ h1 h2 => List.le_antisymm h1 h2) (srt_sorted l) hs ?_
  exact (List.mergeSort_perm l _).trans hp.symm
theorem new_perm {l m : List Bs} (h : l.Perm m) : newS l = newS m := by
  have e : srt l = srt m := srt_eq ((List.mergeSort_perm m _).trans h.symm) (srt_sorted m)
  have e1 := h.length_eq
  have e2 : l.all goodN = m.all goodN := by
    rw [Bool.eq_iff_iff]; simp only [List.all_eq_true]
    exact ⟨fun hh x hx => hh x (h.mem_iff.2 hx), fun hh x hx => hh x (h.mem_iff.1 hx)⟩
  have e3 := h.nodup_iff
  unfold newS
  rw [e, e1, e2]
  by_cases hn : l.Nodup
  · simp [hn, e3.1 hn]
  · have : ¬ m.Nodup := fun hm => hn (e3.2 hm)
    simp [hn, this]
/-! ### the document's -/
def insAt (l : List Bs) (x : Bs) : Nat := (l.takeWhile fun y => decide (y < x)).length
def insR (l : List Bs) (x : Bs) : List Bs := l.take (insAt l x) ++ x :: l.drop (insAt l x)
def refGo : List Bs → List Bs → Option (List Bs)
  | acc, [] => some acc
  | acc, x :: r => if 16 ≤ acc.length ∨ goodN x = false ∨ acc[insAt acc x]? = some x then none else refGo (insR acc x) r
theorem insAt_le (l : List Bs) (x : Bs) : insAt l x ≤ l.length := by
  unfold insAt; exact (List.takeWhile_prefix _).length_le
theorem insR_len (l : List Bs) (x : Bs) : (insR l x).length = l.length + 1 := by
  have := insAt_le l x
  unfold insR; simp; omega
theorem insR_perm (l : List Bs) (x : Bs) : (insR l x).Perm (x :: l) := by
  unfold insR
  refine (List.perm_middle).trans ?_
  rw [List.take_append_drop]
theorem insAt_take (l : List Bs) (x : Bs) : ∀ y ∈ l.take (insAt l x), y < x := by
  intro y hy
  have e : l.take (insAt l x) = l.takeWhile fun y => decide (y < x) := by
    unfold insAt
    exact (List.prefix_iff_eq_take.1 (List.takeWhile_prefix _)).symm
  rw [e] at hy
  have := List.all_eq_true.1 (List.all_takeWhile (l := l) (p := fun y => decide (y < x))) y hy
  simpa using this
theorem insAt_head {l : List Bs} {x y : Bs} (h : l[insAt l x]? = some y) : ¬ y < x := by
  unfold insAt at h
  induction l with
  | nil => simp at h
  | cons a l ih =>
    rw [List.takeWhile_cons] at h
    by_cases ha : a < x
    · simp only [ha, decide_true, if_true, List.length_cons, List.getElem?_cons_succ] at h
      exact ih h
    · simp only [ha, decide_false, Bool.false_eq_true, if_false, List.length_nil, List.getElem?_cons_zero, Option.some.injEq] at h
      subst h; exact ha
theorem insAt_drop {l : List Bs} {x : Bs} (hs : l.Pairwise (fun a b => a ≤ b)) : ∀ y ∈ l.drop (insAt l x), x ≤ y := by
  intro y hy
  cases h : l[insAt l x]? with
  | none =>
    have : l.drop (insAt l x) = [] := List.drop_eq_nil_of_le (List.getElem?_eq_none_iff.1 h)
    rw [this] at hy; simp at hy
  | some z =>
    have hz := insAt_head h
    have hd : l.drop (insAt l x) = z :: l.drop (insAt l x + 1) := drop_cons h
    have hsd : (l.drop (insAt l x)).Pairwise (fun a b => a ≤ b) := hs.sublist (List.drop_sublist ..)
    rw [hd] at hy hsd
    have hxz : x ≤ z := List.not_lt.1 hz
    rcases List.mem_cons.1 hy with rfl | hy
    · exact hxz
    · exact List.le_trans hxz ((List.pairwise_cons.1 hsd).1 y hy)
theorem insR_sorted {l : List Bs} {x : Bs} (hs : l.Pairwise (fun a b => a ≤ b)) : (insR l x).Pairwise (fun a b => a ≤ b) := by
  unfold insR
  rw [List.pairwise_append]
  refine ⟨hs.sublist (List.take_sublist ..), List.pairwise_cons.2 ⟨insAt_drop hs, hs.sublist (List.drop_sublist ..)⟩, fun a ha b hb => ?_⟩
  have h1 := insAt_take l x a ha
  rcases List.mem_cons.1 hb with rfl | hb
  · exact List.le_of_lt h1
  · exact List.le_trans (List.le_of_lt h1) (insAt_drop hs b hb)
theorem insAt_mem {l : List Bs} {x : Bs} (hs : l.Pairwise (fun a b => a ≤ b)) : l[insAt l x]? = some x ↔ x ∈ l := by
  constructor
  · exact fun h => List.mem_of_getElem? h
  · intro h
    rw [← List.take_append_drop (insAt l x) l] at h
    rcases List.mem_append.1 h with h | h
    · exact absurd (insAt_take l x x h) (List.lt_irrefl x)
    · cases hz : l[insAt l x]? with
      | none =>
        have : l.drop (insAt l x) = [] := List.drop_eq_nil_of_le (List.getElem?_eq_none_iff.1 hz)
        rw [this] at h; simp at h
      | some z =>
        have hd : l.drop (insAt l x) = z :: l.drop (insAt l x + 1) := drop_cons hz
        have hsd : (l.drop (insAt l x)).Pairwise (fun a b => a ≤ b) := hs.sublist (List.drop_sublist ..)
        have h1 := insAt_head hz
        rw [hd] at h hsd
        rcases List.mem_cons.1 h with rfl | h
        · rfl
        · have h2 := (List.pairwise_cons.1 hsd).1 x h
          rw [List.le_antisymm h2 (List.not_lt.1 h1)]
theorem refGo_spec : ∀ (r acc : List Bs), acc.Pairwise (fun a b => a ≤ b) → refGo acc r = if (r ≠ [] → acc.length + r.length ≤ 16) ∧ r.all goodN = true ∧ r.Nodup ∧ ∀ x ∈ r, x ∉ acc then some (srt (acc ++ r)) else none
  | [], acc, hs => by
    unfold refGo
    rw [if_pos ⟨by simp, rfl, List.nodup_nil, by simp⟩, List.append_nil, srt_eq (List.Perm.refl _) hs]
  | x :: r, acc, hs => by
    unfold refGo
    split
    · rename_i h
      rw [if_neg]
      rintro ⟨h1, h2, h3, h4⟩
      have h1 := h1 (by simp)
      simp only [List.length_cons] at h1
      simp only [List.all_cons, Bool.and_eq_true] at h2
      rcases h with h | h | h
      · omega
      · rw [h] at h2; simp at h2
      · exact h4 x (List.mem_cons_self ..) (List.mem_of_getElem? h)
    · rename_i h
      simp only [not_or, Bool.not_eq_false] at h
      obtain ⟨h1, h2, h3⟩ := h
      rw [insAt_mem hs] at h3
      rw [refGo_spec r (insR acc x) (insR_sorted hs), insR_len]
      have hmem : ∀ y, y ∈ insR acc x ↔ y = x ∨ y ∈ acc := fun y => by rw [(insR_perm acc x).mem_iff, List.mem_cons]
      have e : srt (insR acc x ++ r) = srt (acc ++ x :: r) := by
        refine srt_eq (l := insR acc x ++ r) ?_ (srt_sorted _)
        refine (List.mergeSort_perm _ _).trans ?_
        refine (List.perm_middle).trans ?_
        exact ((insR_perm acc x).append_right r).symm
      rw [e]
      have hiff : ((r ≠ [] → acc.length + 1 + r.length ≤ 16) ∧ r.all goodN = true ∧ r.Nodup ∧ ∀ y ∈ r, y ∉ insR acc x) ↔ ((x :: r ≠ [] → acc.length + (x :: r).length ≤ 16) ∧ (x :: r).all goodN = true ∧ (x :: r).Nodup ∧ ∀ y ∈ x :: r, y ∉ acc) := by
        simp only [List.all_cons, h2, Bool.true_and, List.nodup_cons, List.length_cons, hmem, not_or, ne_eq, reduceCtorEq, not_false_eq_true, forall_const]
        constructor
        · rintro ⟨g1, g2, g3, g4⟩
          refine ⟨?_, g2, ⟨fun hx => (g4 x hx).1 rfl, g3⟩, fun y hy => ?_⟩
          · cases r with
            | nil => simp; omega
            | cons a r => have := g1 (by simp); simp at this ⊢; omega
          · rcases List.mem_cons.1 hy with rfl | hy
            · exact h3
            · exact (g4 y hy).2
        · rintro ⟨g1, g2, ⟨g3, g4⟩, g5⟩
          exact ⟨fun _ => by omega, g2, g4, fun y hy => ⟨fun e => g3 (e ▸ hy), g5 y (List.mem_cons_of_mem _ hy)⟩⟩
      by_cases hc : ((r ≠ [] → acc.length + 1 + r.length ≤ 16) ∧ r.all goodN = true ∧ r.Nodup ∧ ∀ y ∈ r, y ∉ insR acc x)
      · rw [if_pos hc, if_pos (hiff.1 hc)]
      · rw [if_neg hc, if_neg (fun h => hc (hiff.2 h))]
theorem ref_new (l : List Bs) : refGo [] l = if l = [] then some [] else newS l := by
  rw [refGo_spec l [] List.Pairwise.nil]
  cases l with
  | nil => simp [srt]
  | cons x r =>
    unfold newS
    simp
end Go.Proofs.Ytceiiajacnihjaa
