/- The statements on fields, as plain facts. -/
import Derived.Test.YtobaignbahnjbaaDoorFldS
set_option linter.unusedVariables false
set_option linter.unusedSimpArgs false
namespace Go.Fld
open Go
theorem show35 : showF 35 = [51, 53] := by rw [show_big (by decide) (by decide), show_dig (by decide) (by decide)]; rfl
theorem show34 : showF 34 = [51, 52] := by rw [show_big (by decide) (by decide), show_dig (by decide) (by decide)]; rfl
abbrev aw : List Fld.Fd := [(35, [65]), (34, [55])]
theorem aw_right : aw.all rightF = true := by decide
theorem aw_enc : encL aw = [51, 53, 61, 65, 1, 51, 52, 61, 55, 1] := by simp only [aw, encL, encF, show35, show34]; rfl
theorem aw_put : putF aw = ([51, 53, 61, 65, 1, 51, 52, 61, 55, 1], 0) := by unfold putF; rw [if_neg (by decide), if_pos aw_right, aw_enc]
theorem aw_parse : parseL [51, 53, 61, 65, 1, 51, 52, 61, 55, 1] = (aw, 0) := by
  have := parse_put (a := aw) (b := []) aw_right rfl (by decide) (by rw [aw_enc]; decide)
  rw [show encL [] = [] from rfl, List.append_nil, List.append_nil, aw_enc] at this; exact this
theorem aw_num : numF aw 34 = (7, true) := by
  have h : parseF [55] = (7, 0) := by have := parse_show (n := 7) (by decide); rw [show_dig (by decide) (by decide)] at this; exact this
  have hg : getF aw 34 = ([55], true) := rfl
  unfold numF; rw [hg]; simp only [h]; rfl
theorem parseGo_len : ∀ (n : Nat) (b : Bs) (acc : List Fld.Fd), b.length ≤ n → acc.length ≤ 100 → (parseGo acc b).1.length ≤ 100 := by
  intro n
  induction n with
  | zero =>
    intro b acc hn ha
    have : b = [] := List.eq_nil_of_length_eq_zero (by omega)
    subst this; rw [parseGo_nil]; exact ha
  | succ n ih =>
    intro b acc hn ha
    by_cases hb : b = []
    · subst hb; rw [parseGo_nil]; exact ha
    cases hc : cutB 1 b with
    | none => rw [parseGo_short hb hc]; exact Nat.zero_le _
    | some p =>
      obtain ⟨t, r⟩ := p
      rw [parseGo_cut hc]
      cases readF t with
      | none => exact Nat.zero_le _
      | some f =>
        simp only
        split
        · exact Nat.zero_le _
        · exact ih r _ (by have := cutB_len hc; omega) (by simp; omega)
theorem parseL_len (b : Bs) : (parseL b).1.length ≤ 100 := by
  unfold parseL; split
  · exact Nat.zero_le _
  · exact parseGo_len _ b [] (Nat.le_refl _) (by simp)
theorem short_len {l : List Fld.Fd} (h : shortF l = true) : l.length ≤ 110 ∧ ∀ f ∈ l, f.2.length ≤ 300 := by
  unfold shortF at h
  simp only [Bool.and_eq_true, decide_eq_true_eq, List.all_eq_true] at h
  exact h
end Go.Fld
namespace Go.Fld
open Go
def awb : Bs := [51, 53, 61, 65, 1, 51, 52, 61, 55, 1]
theorem aw_cmp : (awb = [51, 53, 61, 65, 1, 51, 52, 61, 55, 1]) = True := eq_true rfl
theorem aw_put' : putF aw = (awb, 0) := aw_put
theorem aw_parse' : parseL awb = (aw, 0) := aw_parse
theorem num_cases (l : List Fld.Fd) (tag : Int) : ((getF l tag).2 = true ∧ (parseF (getF l tag).1).2 = 0 ∧ numF l tag = ((parseF (getF l tag).1).1, true)) ∨
    ((getF l tag).2 = true ∧ decide ((parseF (getF l tag).1).2 = 0) = false ∧ numF l tag = (0, false)) ∨ ((getF l tag).2 = false ∧ decide ((parseF (getF l tag).1).2 = 0) = false ∧ numF l tag = (0, false)) := by
  unfold numF
  cases h : (getF l tag).2 with
  | true =>
    by_cases h2 : (parseF (getF l tag).1).2 = 0
    · left; simp [h2]
    · right; left; simp [h2]
  | false =>
    right; right
    refine ⟨rfl, ?_, by simp⟩
    have : ∀ l : List Fld.Fd, (getF l tag).2 = false → (getF l tag).1 = [] := by
      intro l
      induction l with
      | nil => intro _; rfl
      | cons f r ih =>
        intro hh
        rw [getF] at hh ⊢
        split at hh
        · simp at hh
        · rename_i hne; rw [if_neg hne]; exact ih hh
    rw [this l h]
    decide
end Go.Fld
namespace Go.Fld
open Go
theorem put_done {l : List Fld.Fd} (h : (putF l).2 = 0) : putF l = (encL l, 0) ∧ l.all rightF = true ∧ l.length ≤ 100 := by
  unfold putF at h ⊢
  split at h
  · simp at h
  · rename_i h1
    split at h
    · rename_i h2; rw [if_neg h1, if_pos h2]; exact ⟨rfl, h2, by omega⟩
    · simp at h
theorem put_fail {l : List Fld.Fd} (h : ¬ (putF l).2 = 0) : (putF l).1 = [] := by
  unfold putF at h ⊢
  split at h
  · rename_i h1; rw [if_pos h1]
  · rename_i h1
    split at h
    · simp at h
    · rename_i h2; rw [if_neg h1, if_neg h2]
theorem put_len (l : List Fld.Fd) : (putF l).1.length ≤ 26200 := by
  by_cases h : (putF l).2 = 0
  · obtain ⟨h1, h2, h3⟩ := put_done h
    have := encL_len h2
    rw [h1]; simp only; omega
  · rw [put_fail h]; simp
theorem back1 {a b : List Fld.Fd} (ha : (putF a).2 = 0) (hb : (putF b).2 = 0) (h1 : ¬ (50 : Int) < (a.length : Int)) (h2 : ¬ (50 : Int) < (b.length : Int)) : parseL ((putF a).1 ++ (putF b).1) = (a ++ b, 0) := by
  obtain ⟨a1, a2, a3⟩ := put_done ha
  obtain ⟨b1, b2, b3⟩ := put_done hb
  have l1 := put_len a
  have l2 := put_len b
  rw [a1] at l1 ⊢
  rw [b1] at l2 ⊢
  simp only at *
  exact parse_put a2 b2 (by omega) (by rw [List.length_append]; omega)
theorem back2 {c : Bs} (h : (parseL c).2 = 0) : putF (parseL c).1 = (c, 0) := put_parse (Prod.ext rfl h)
theorem parse_len0 {c : Bs} (h : ¬ (parseL c).2 = 0) : (parseL c).1.length = 0 := by rw [parse_err h]; rfl
theorem cuts {l : List Fld.Fd} {q : Nat} (h : (putF l).2 = 0) (hl : ¬ (50 : Int) < (l.length : Int)) (hq : q ≤ (putF l).1.length) :
    ((q = 0 ∨ ∃ b, (putF l).1[q - 1]? = some b ∧ (b.toNat : Int) = 1) → parseL ((putF l).1.take q) = (l.take (((putF l).1.take q).count 1), 0) ∧ ((putF l).1.take q).count 1 ≤ l.length) ∧
    ((q ≠ 0 ∧ ∃ b, (putF l).1[q - 1]? = some b ∧ ¬ (b.toNat : Int) = 1) → parseL ((putF l).1.take q) = ([], 2)) := by
  obtain ⟨e, h2, h3⟩ := put_done h
  have hlen := put_len l
  rw [e] at hq hlen ⊢
  simp only at *
  have hlt : ¬ 65536 < ((encL l).take q).length := by rw [List.length_take]; omega
  have last : ∀ b, (encL l)[q - 1]? = some b → q ≠ 0 → ((encL l).take q).getLast? = some b := by
    intro b hb h0
    rw [List.getLast?_eq_getElem?, List.length_take, Nat.min_eq_left hq, List.getElem?_take, if_pos (by omega)]; exact hb
  rcases enc_cut l q h2 hq with ⟨k, k1, k2, k3⟩ | ⟨k, t, k1, k2, k3, k4⟩
  · have hall : (l.take k).all rightF = true := by
      rw [List.all_eq_true] at h2 ⊢; intro x hx; exact h2 x (List.mem_of_mem_take hx)
    have hp : parseL ((encL l).take q) = (l.take k, 0) := by
      have := parse_put (a := l.take k) (b := []) hall rfl (by simp; omega) (by rw [show encL [] = [] from rfl, List.append_nil, ← k2]; omega)
      rw [show encL [] = [] from rfl, List.append_nil, List.append_nil, ← k2] at this; exact this
    refine ⟨fun _ => ⟨by rw [hp, k3], by rw [k3]; exact k1⟩, ?_⟩
    rintro ⟨h0, b, hb, hb1⟩
    exfalso
    have h5 := last b hb h0
    by_cases hk : l.take k = []
    · rw [k2, hk] at h5; simp [encL] at h5
    · obtain ⟨m, hm⟩ := encL_last hk
      rw [k2, hm, List.getLast?_append] at h5
      simp at h5; subst h5; exact hb1 rfl
  · have hall : (l.take k).all rightF = true := by
      rw [List.all_eq_true] at h2 ⊢; intro x hx; exact h2 x (List.mem_of_mem_take hx)
    have hp : parseL ((encL l).take q) = ([], 2) := by
      unfold parseL
      rw [if_neg hlt, k2, parse_enc _ [] t hall (by simp; omega), parseGo_short k3 (cutB_none.2 k4)]
    refine ⟨?_, fun _ => hp⟩
    rintro (h0 | ⟨b, hb, hb1⟩)
    · exfalso
      subst h0
      have := congrArg List.length k2
      simp only [List.take_zero, List.length_nil, List.length_append] at this
      exact k3 (List.eq_nil_of_length_eq_zero (by omega))
    · exfalso
      by_cases h0 : q = 0
      · subst h0
        have := congrArg List.length k2
        simp only [List.take_zero, List.length_nil, List.length_append] at this
        exact k3 (List.eq_nil_of_length_eq_zero (by omega))
      have h5 := last b hb h0
      rw [k2, List.getLast?_append] at h5
      cases ht : t.getLast? with
      | none => exact k3 (List.getLast?_eq_none_iff.1 ht)
      | some x =>
        rw [ht] at h5; simp at h5; subst h5
        have : x = 1 := u8_eq hb1 rfl
        subst this
        exact k4 (List.mem_of_getLast? ht)
theorem mod_q {c : Int} {n : Nat} (h0 : 0 ≤ c) (h1 : c < 65536) (hn : n ≤ 26200) : ∃ q : Nat, Int.tmod (IntKind.i64.wrap c) (IntKind.i64.wrap ((n : Int) + 1)) = (q : Int) ∧ q ≤ n := by
  rw [IntKind.wrap_i64, IntKind.wrap_i64]
  have e1 : (c + 9223372036854775808) % 18446744073709551616 - 9223372036854775808 = c := by omega
  have e2 : ((n : Int) + 1 + 9223372036854775808) % 18446744073709551616 - 9223372036854775808 = (n : Int) + 1 := by omega
  rw [e1, e2, Int.tmod_eq_emod_of_nonneg h0]
  have h2 := Int.emod_nonneg c (show (n : Int) + 1 ≠ 0 by omega)
  have h3 := Int.emod_lt_of_pos c (show 0 < (n : Int) + 1 by omega)
  exact ⟨(c % ((n : Int) + 1)).toNat, by omega, by omega⟩
theorem count_next1 {l : Bs} {i : Nat} {b : UInt8} (hb : l[i]? = some b) (h : (b.toNat : Int) = 1) : (l.take (i + 1)).count 1 = (l.take i).count 1 + 1 := by
  rw [take_next hb, List.count_append, u8_eq (c := 1) h rfl]; rfl
theorem count_next2 {l : Bs} {i : Nat} {b : UInt8} (hb : l[i]? = some b) (h : ¬ (b.toNat : Int) = 1) : (l.take (i + 1)).count 1 = (l.take i).count 1 := by
  rw [take_next hb, List.count_append, List.count_eq_zero_of_not_mem (a := 1) (l := [b]) (by simp; exact fun e => u8_ne h rfl e.symm)]; rfl
end Go.Fld
