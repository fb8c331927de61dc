/- How a field is read digit by digit. -/
import Derived.Test.YtobaignbahnjbaaDoorFldR
set_option linter.unusedVariables false
set_option linter.unusedSimpArgs false
namespace Go.Fld
open Go

theorem parse_digits {a : Bs} (hl : a.length ≤ 4) (hd : a.all isDig = true) (hn : a ≠ []) (h0 : a.head? ≠ some 48) : parseF a = (((decVal 0 a : Nat) : Int), 0) ∧ 1 ≤ decVal 0 a ∧ decVal 0 a ≤ 9999 := by
  have hs : signed a = (a, false) := by
    unfold signed
    split
    · rename_i r; simp [isDig] at hd
    · rfl
  have hlt := decVal_lt a hd
  have hle : 10 ^ a.length ≤ 10 ^ 4 := Nat.pow_le_pow_right (by decide) hl
  have h1 : 1 ≤ decVal 0 a := by
    cases a with
    | nil => exact absurd rfl hn
    | cons c r =>
      simp only [List.all_cons, Bool.and_eq_true] at hd
      have := decVal_lead (l := r) hd.1 (fun e => h0 (by rw [e]; rfl))
      exact Nat.le_trans (Nat.one_le_pow _ _ (by decide)) this
  refine ⟨?_, h1, by omega⟩
  have := parse_ok (l := a) (by omega) (by rw [hs]; rintro (e | ⟨e, _⟩); exact hn e; exact h0 e) (by rw [hs]; exact hd) (by rw [hs]; simp only; omega)
  rw [this, hs]
  rfl

theorem parse_small {a : Bs} {n : Int} (h : parseF a = (n, 0)) (h1 : 1 ≤ n) (h2 : n ≤ 9999) : a.length ≤ 4 ∧ a.all isDig = true ∧ a ≠ [] ∧ a.head? ≠ some 48 := by
  obtain ⟨_, e⟩ := show_parse h
  obtain ⟨_, e2, _, _, h4⟩ := show_bytes h1 h2
  rw [← e]
  refine ⟨h4, ?_, ?_, ?_⟩ <;> rw [e2]
  · exact decDigits_dig _
  · exact decDigits_ne _
  · exact decDigits_head _ (by omega)

/-- Where the digits at the beginning end. -/
structure Digs (t : Bs) (k : Nat) : Prop where
  le : k ≤ t.length
  four : k ≤ 4
  dig : (t.take k).all isDig = true
  stop : k = 4 ∨ k = t.length ∨ ∃ c, t[k]? = some c ∧ isDig c = false

theorem Digs.of_cut {t a v : Bs} {k : Nat} (h : Digs t k) (e : t = a ++ 61 :: v) (hl : a.length ≤ 4) (hd : a.all isDig = true) : k = a.length := by
  subst e
  rcases Nat.lt_trichotomy k a.length with hlt | heq | hgt
  · exfalso
    rcases h.stop with h' | h' | ⟨c, h1, h2⟩
    · omega
    · simp at h'; omega
    · rw [List.getElem?_append_left hlt] at h1
      have := List.all_eq_true.1 hd c (List.mem_of_getElem? h1)
      rw [h2] at this; simp at this
  · exact heq
  · exfalso
    have h1 : (61 : UInt8) ∈ (a ++ 61 :: v).take k := by
      rw [List.take_append, List.mem_append]
      right
      obtain ⟨m, hm⟩ : ∃ m, k - a.length = m + 1 := ⟨k - a.length - 1, by omega⟩
      rw [hm]; simp
    have := List.all_eq_true.1 h.dig _ h1
    simp [isDig] at this

theorem read_none {t : Bs} {k : Nat} (h : Digs t k) (hh : k = 0 ∨ t[0]? = some 48 ∨ k = t.length ∨ ∃ c, t[k]? = some c ∧ c ≠ 61) : readF t = none := by
  cases hr : readF t with
  | none => rfl
  | some f =>
    exfalso
    unfold readF at hr
    split at hr
    · simp at hr
    · rename_i a v hc
      split at hr
      · rename_i hp
        obtain ⟨e, _⟩ := cutB_some.1 hc
        obtain ⟨h1, h2, h3, h4⟩ := parse_small (a := a) (n := (parseF a).1) (by rw [← hp.1]) hp.2.1 hp.2.2.1
        have hk := h.of_cut e h1 h2
        have hpos : 0 < a.length := List.length_pos_iff.2 h3
        rcases hh with hh | hh | hh | ⟨c, hc1, hc2⟩
        · omega
        · rw [e, List.getElem?_append_left hpos, ← List.head?_eq_getElem?] at hh; exact h4 hh
        · rw [e] at hh; simp at hh; omega
        · rw [e, hk, List.getElem?_append_right (Nat.le_refl _)] at hc1
          simp at hc1; exact hc2 hc1.symm
      · simp at hr
theorem read_some {t : Bs} {k : Nat} (h : Digs t k) (h0 : k ≠ 0) (h1 : t[0]? ≠ some 48) (h2 : t[k]? = some 61) :
    readF t = if rightF ((decVal 0 (t.take k) : Nat), t.drop (k + 1)) = true then some (((decVal 0 (t.take k) : Nat) : Int), t.drop (k + 1)) else none := by
  have hlt := get_lt h2
  have hn61 : (61 : UInt8) ∉ t.take k := fun hm => by
    have := List.all_eq_true.1 h.dig _ hm
    simp [isDig] at this
  have e : t = t.take k ++ 61 :: t.drop (k + 1) := by
    rw [← drop_at h2, List.take_append_drop]
  have hne : t.take k ≠ [] := fun e => by
    have := congrArg List.length e
    rw [List.length_take, List.length_nil] at this; omega
  have hh : (t.take k).head? ≠ some 48 := by
    rw [List.head?_eq_getElem?, List.getElem?_take]
    rw [if_pos (by omega)]; exact h1
  obtain ⟨hp, hp1, hp2⟩ := parse_digits (a := t.take k) (by rw [List.length_take]; have := h.four; omega) h.dig hne hh
  have hc : cutB 61 t = some (t.take k, t.drop (k + 1)) := cutB_some.2 ⟨e, hn61⟩
  unfold readF
  rw [hc]
  simp only [hp]
  by_cases hr : rightF ((decVal 0 (t.take k) : Nat), t.drop (k + 1)) = true
  · rw [if_pos ⟨trivial, by omega, by omega, hr⟩, if_pos hr]
  · rw [if_neg (fun hx => hr hx.2.2.2), if_neg hr]
end Go.Fld
namespace Go.Fld
theorem index_neg {l : Bs} : (Lib.indexByte l 1 < 0) = ((1 : UInt8) ∉ l) := by
  rw [index_cut, eq_iff_iff, ← cutB_none]
  cases h : cutB 1 l with
  | none => simp
  | some p => simp
theorem enc_take {l : List Fld.Fd} {i : Nat} (h : (l.take i).all rightF = true) : (encL (l.take i)).length ≤ 262 * l.length := by
  have := encL_len h
  have h2 : (l.take i).length ≤ l.length := by rw [List.length_take]; omega
  have := Nat.mul_le_mul_left 262 h2
  omega
theorem put_long {l : List Fld.Fd} (h : 100 < l.length) : putF l = ([], 4) := by unfold putF; rw [if_pos h]
theorem put_bad {l : List Fld.Fd} {i : Nat} {f : Fld.Fd} (h : ¬ 100 < l.length) (hb : l[i]? = some f) (hf : rightF f = false) : putF l = ([], 1) := by
  unfold putF; rw [if_neg h, if_neg]
  intro e; rw [List.all_eq_true] at e
  rw [e f (List.mem_of_getElem? hb)] at hf; simp at hf
theorem put_ok {l : List Fld.Fd} {i : Nat} (h : ¬ 100 < l.length) (hi : ¬ (i : Int) < (l.length : Int)) (h2 : (l.take i).all rightF = true) : putF l = (encL (l.take i), 0) := by
  rw [List.take_of_length_le (by omega)] at h2 ⊢
  unfold putF; rw [if_neg h, if_pos h2]
theorem encL_app : ∀ (l m : List Fld.Fd), encL (l ++ m) = encL l ++ encL m
  | [], _ => rfl
  | f :: l, m => by show encF f ++ encL (l ++ m) = (encF f ++ encL l) ++ encL m; rw [encL_app l m, List.append_assoc]
theorem enc_next {l : List Fld.Fd} {i : Nat} {f : Fld.Fd} (hb : l[i]? = some f) : encL (l.take (i + 1)) = encL (l.take i) ++ showF f.1 ++ [61] ++ f.2 ++ [1] := by
  rw [take_next hb, encL_app]; simp [encL, encF]
end Go.Fld
namespace Go.Fld
open Go
def readR (s : Bs) : Fld.Fd × Bool :=
  match cutB 61 s with
  | none => ((0, []), false)
  | some (a, v) => if (parseF a).2 ≠ 0 ∨ (parseF a).1 < 1 ∨ 9999 < (parseF a).1 then ((0, []), false) else (((parseF a).1, v), rightF ((parseF a).1, v))
theorem readR_none {s : Bs} (h : cutB 61 s = none) : readR s = ((0, []), false) := by unfold readR; rw [h]
theorem readR_bad {s a v : Bs} (h : cutB 61 s = some (a, v)) (h1 : (parseF a).2 ≠ 0 ∨ (parseF a).1 < 1 ∨ 9999 < (parseF a).1) : readR s = ((0, []), false) := by unfold readR; rw [h]; simp only; rw [if_pos h1]
theorem readR_at {s a v : Bs} (h : cutB 61 s = some (a, v)) (h1 : ¬ ((parseF a).2 ≠ 0 ∨ (parseF a).1 < 1 ∨ 9999 < (parseF a).1)) : readR s = (((parseF a).1, v), rightF ((parseF a).1, v)) := by unfold readR; rw [h]; simp only; rw [if_neg h1]
theorem readF_R (s : Bs) : readF s = if (readR s).2 = true then some (readR s).1 else none := by
  unfold readF
  cases h : cutB 61 s with
  | none => rw [readR_none h]; rfl
  | some p =>
    obtain ⟨a, v⟩ := p
    simp only
    by_cases h1 : (parseF a).2 ≠ 0 ∨ (parseF a).1 < 1 ∨ 9999 < (parseF a).1
    · rw [readR_bad h h1, if_neg]
      · rfl
      · rintro ⟨e1, e2, e3, _⟩; omega
    · rw [readR_at h h1]
      simp only
      have h2 : (parseF a).2 = 0 := by omega
      by_cases h3 : rightF ((parseF a).1, v) = true
      · rw [if_pos ⟨h2, by omega, by omega, h3⟩, if_pos h3]
      · rw [if_neg (fun hx => h3 hx.2.2.2), if_neg h3]
theorem readF_yes {s : Bs} (h : (readR s).2 = true) : readF s = some (readR s).1 := by rw [readF_R, if_pos h]
theorem readF_no {s : Bs} (h : (readR s).2 = false) : readF s = none := by rw [readF_R, if_neg (by rw [h]; simp)]

theorem cut_take {c : UInt8} {l a v : Bs} (h : cutB c l = some (a, v)) : l.take a.length = a ∧ l.drop (a.length + 1) = v ∧ a.length + 1 + v.length = l.length := by
  obtain ⟨e, _⟩ := cutB_some.1 h
  subst e
  refine ⟨List.take_left, ?_, by simp; omega⟩
  rw [← List.drop_drop, List.drop_left]; rfl
theorem pl_long {b : Bs} (h : 65536 < b.length) : parseL b = ([], 4) := by unfold parseL; rw [if_pos h]
theorem pl_short {b rest : Bs} {acc : List Fld.Fd} (h : ¬ 65536 < b.length) (hI : parseGo [] b = parseGo acc rest) (hne : 0 < rest.length) (hc : cutB 1 rest = none) : parseL b = ([], 2) := by
  unfold parseL; rw [if_neg h, hI, parseGo_short (List.length_pos_iff.1 hne) hc]
theorem pl_form {b rest a v : Bs} {acc : List Fld.Fd} (h : ¬ 65536 < b.length) (hI : parseGo [] b = parseGo acc rest) (hc : cutB 1 rest = some (a, v)) (hr : readF a = none) : parseL b = ([], 3) := by
  unfold parseL; rw [if_neg h, hI, parseGo_cut hc, hr]
theorem pl_many {b rest a v : Bs} {acc : List Fld.Fd} {f : Fld.Fd} (h : ¬ 65536 < b.length) (hI : parseGo [] b = parseGo acc rest) (hc : cutB 1 rest = some (a, v)) (hr : readF a = some f) (h100 : acc.length = 100) : parseL b = ([], 4) := by
  unfold parseL; rw [if_neg h, hI, parseGo_cut hc, hr]; simp only; rw [if_pos h100]
theorem pl_step {b rest a v : Bs} {acc : List Fld.Fd} {f : Fld.Fd} (hI : parseGo [] b = parseGo acc rest) (hc : cutB 1 rest = some (a, v)) (hr : readF a = some f) (h100 : ¬ acc.length = 100) : parseGo [] b = parseGo (acc ++ [f]) v := by
  rw [hI, parseGo_cut hc, hr]; simp only; rw [if_neg h100]
theorem pl_end {b rest : Bs} {acc : List Fld.Fd} (h : ¬ 65536 < b.length) (hI : parseGo [] b = parseGo acc rest) (he : ¬ 0 < rest.length) : parseL b = (acc, 0) := by
  have : rest = [] := List.eq_nil_of_length_eq_zero (by omega)
  subst this
  unfold parseL; rw [if_neg h, hI, parseGo_nil]
theorem get_end {l : List Fld.Fd} {tag : Int} {i : Nat} (h : getF l tag = getF (l.drop i) tag) (he : ¬ (i : Int) < (l.length : Int)) : getF l tag = ([], false) := by
  rw [h, List.drop_eq_nil_of_le (by omega)]; rfl
theorem get_hit {l : List Fld.Fd} {tag : Int} {i : Nat} {f : Fld.Fd} (h : getF l tag = getF (l.drop i) tag) (hb : l[i]? = some f) (he : f.1 = tag) : getF l tag = (f.2, true) := by
  rw [h, drop_at hb, getF, if_pos he]
theorem get_miss {l : List Fld.Fd} {tag : Int} {i : Nat} {f : Fld.Fd} (h : getF l tag = getF (l.drop i) tag) (hb : l[i]? = some f) (he : ¬ f.1 = tag) : getF l tag = getF (l.drop (i + 1)) tag := by
  rw [h, drop_at hb, getF, if_neg he]
end Go.Fld
namespace Go.Fld
open Go
theorem tk_get {b : Bs} {p j k : Nat} (hk : k < j) : ((b.drop p).take j)[k]? = b[p + k]? := by
  rw [List.getElem?_take, if_pos hk, List.getElem?_drop]
theorem tk_len {b : Bs} {p j : Nat} (h : p + j ≤ b.length) : ((b.drop p).take j).length = j := by
  rw [List.length_take, List.length_drop]; omega
theorem p2_cut {b : Bs} {p j : Nat} (h2 : (1 : UInt8) ∉ (b.drop p).take j) (h3 : b[p + j]? = some 1) : cutB 1 (b.drop p) = some ((b.drop p).take j, b.drop (p + j + 1)) := by
  have e : (b.drop p).drop j = 1 :: b.drop (p + j + 1) := by rw [List.drop_drop]; exact drop_at h3
  rw [cutB_some]
  exact ⟨by rw [← e, List.take_append_drop], h2⟩
theorem p2_none {b : Bs} {p j : Nat} (h2 : (1 : UInt8) ∉ (b.drop p).take j) (h3 : p + j = b.length) : cutB 1 (b.drop p) = none := by
  rw [cutB_none]
  rw [List.take_of_length_le (by rw [List.length_drop]; omega)] at h2; exact h2
theorem p2_next {b : Bs} {p j : Nat} {c : UInt8} (h : (1 : UInt8) ∉ (b.drop p).take j) (hb : b[p + j]? = some c) (hc : ¬ (c.toNat : Int) = 1) : (1 : UInt8) ∉ (b.drop p).take (j + 1) :=
  nmem_next (by rw [List.getElem?_drop]; exact hb) h (u8_ne hc rfl)
theorem p2_val {b : Bs} {p j k : Nat} {c : UInt8} (hk : k < j) (h4 : k < 4) (hb : b[p + k]? = some c) (hd : (((b.drop p).take j).take k).all isDig = true) (h1 : (48 : Int) ≤ (c.toNat : Int)) (h2 : (c.toNat : Int) ≤ 57) :
    IntKind.i64.wrap (IntKind.i64.wrap (((decVal 0 (((b.drop p).take j).take k) : Nat) : Int) * 10) + IntKind.i64.wrap (IntKind.u8.wrap ((c.toNat : Int) - 48))) = ((decVal 0 (((b.drop p).take j).take (k + 1)) : Nat) : Int) ∧ (((b.drop p).take j).take (k + 1)).all isDig = true := by
  have hg : ((b.drop p).take j)[k]? = some c := by rw [tk_get hk]; exact hb
  refine ⟨?_, all_next hg hd (by omega) (by omega)⟩
  have hlt := decVal_lt _ hd
  have hle : 10 ^ (((b.drop p).take j).take k).length ≤ 10 ^ 4 := Nat.pow_le_pow_right (by decide) (by rw [List.length_take]; omega)
  rw [val_next hg]
  generalize decVal 0 (((b.drop p).take j).take k) = q at *
  rw [IntKind.wrap_u8, IntKind.wrap_i64, IntKind.wrap_i64, IntKind.wrap_i64]
  omega
theorem p2_stop1 {b : Bs} {p j k : Nat} (hj : p + j ≤ b.length) (hk : k ≤ j) (h4 : k ≤ 4) (hd : (((b.drop p).take j).take k).all isDig = true) (h : ¬ k < j) : Digs ((b.drop p).take j) k :=
  ⟨by rw [tk_len hj]; exact hk, h4, hd, .inr (.inl (by rw [tk_len hj]; omega))⟩
theorem p2_stop2 {b : Bs} {p j k : Nat} (hj : p + j ≤ b.length) (hk : k ≤ j) (hd : (((b.drop p).take j).take k).all isDig = true) (h : k = 4) : Digs ((b.drop p).take j) k :=
  ⟨by rw [tk_len hj]; exact hk, by omega, hd, .inl h⟩
theorem p2_stop3 {b : Bs} {p j k : Nat} {c : UInt8} (hj : p + j ≤ b.length) (hk : k < j) (h4 : k ≤ 4) (hd : (((b.drop p).take j).take k).all isDig = true) (hb : b[p + k]? = some c) (h : ¬ (48 : Int) ≤ (c.toNat : Int) ∨ ¬ (c.toNat : Int) ≤ 57) : Digs ((b.drop p).take j) k :=
  ⟨by rw [tk_len hj]; omega, h4, hd, .inr (.inr ⟨c, by rw [tk_get hk]; exact hb, by
    rw [Bool.eq_false_iff]; simp only [isDig, ne_eq, Bool.and_eq_true, decide_eq_true_eq]; omega⟩)⟩
theorem p2_val_piece {b : Bs} {p j k : Nat} : (b.take (p + j)).drop (p + k + 1) = ((b.drop p).take j).drop (k + 1) := by
  rw [List.drop_take, List.drop_take, List.drop_drop]
  congr 1 <;> omega
end Go.Fld
namespace Go.Fld
open Go
theorem p2_hit {bs : Bs} {p j : Nat} (g3 : p + j = bs.length ∨ bs[p + j]? = some 1) (h : ¬ ((p + j : Nat) : Int) = (bs.length : Int)) : bs[p + j]? = some 1 := by
  rcases g3 with g | g
  · omega
  · exact g
theorem r2_bad {bs : Bs} {p j k : Nat} (g1 : p + j ≤ bs.length) (hD : Digs ((bs.drop p).take j) k)
    (hh : ((p + k : Nat) : Int) = (p : Int) ∨ (∃ b, bs[p]? = some b ∧ (b.toNat : Int) = 48 ∧ ¬ ((p + k : Nat) : Int) = (p : Int)) ∨ ((p + k : Nat) : Int) = ((p + j : Nat) : Int) ∨ ∃ b, bs[p + k]? = some b ∧ ¬ ((p + k : Nat) : Int) = ((p + j : Nat) : Int) ∧ ¬ (b.toNat : Int) = 61) :
    readF ((bs.drop p).take j) = none := by
  have hkj := hD.le
  rw [tk_len g1] at hkj
  apply read_none hD
  rcases hh with h | ⟨b, h1, h2, h3⟩ | h | ⟨b, h1, h2, h3⟩
  · left; omega
  · right; left
    have e : b = 48 := u8_eq h2 rfl
    rw [tk_get (by omega), Nat.add_zero, h1, e]
  · right; right; left; rw [tk_len g1]; omega
  · right; right; right
    exact ⟨b, by rw [tk_get (by omega)]; exact h1, u8_ne h3 rfl⟩
theorem r2_good {bs : Bs} {p j k : Nat} {b1 b : UInt8} (g1 : p + j ≤ bs.length) (hD : Digs ((bs.drop p).take j) k) (h0 : ¬ ((p + k : Nat) : Int) = (p : Int)) (hb1 : bs[p]? = some b1) (h1 : ¬ (b1.toNat : Int) = 48)
    (h2 : ¬ ((p + k : Nat) : Int) = ((p + j : Nat) : Int)) (hb : bs[p + k]? = some b) (h3 : (b.toNat : Int) = 61) :
    readF ((bs.drop p).take j) = if rightF ((decVal 0 (((bs.drop p).take j).take k) : Nat), ((bs.drop p).take j).drop (k + 1)) = true then some (((decVal 0 (((bs.drop p).take j).take k) : Nat) : Int), ((bs.drop p).take j).drop (k + 1)) else none := by
  have hkj := hD.le
  rw [tk_len g1] at hkj
  have e : b = 61 := u8_eq h3 rfl
  apply read_some hD (by omega)
  · rw [tk_get (by omega), Nat.add_zero, hb1]
    intro e; simp only [Option.some.injEq] at e; subst e; exact h1 rfl
  · rw [tk_get (by omega), hb, e]
theorem ite_yes {α : Type} {x : Option α} {c : Bool} {y : α} (h : x = if c = true then some y else none) (hc : c = true) : x = some y := by rw [h, if_pos hc]
theorem ite_no {α : Type} {x : Option α} {c : Bool} {y : α} (h : x = if c = true then some y else none) (hc : c = false) : x = none := by rw [h, if_neg (by rw [hc]; simp)]
end Go.Fld
namespace Go.Fld
def shortF (l : List Fld.Fd) : Bool := decide (l.length ≤ 110) && l.all fun f => decide (f.2.length ≤ 300)
theorem short_no1 {l : List Fld.Fd} (h : 110 < l.length) : shortF l = false := by
  unfold shortF; rw [decide_eq_false (by omega)]; rfl
theorem short_no2 {l : List Fld.Fd} {i : Nat} {f : Fld.Fd} (hb : l[i]? = some f) (h : 300 < f.2.length) : shortF l = false := by
  unfold shortF
  rw [Bool.and_eq_false_iff]; right
  rw [Bool.eq_false_iff]; intro e
  have := List.all_eq_true.1 e f (List.mem_of_getElem? hb)
  simp at this; omega
theorem short_yes {l : List Fld.Fd} {i : Nat} (h : l.length ≤ 110) (hi : l.length ≤ i) (h2 : (l.take i).all (fun f => decide (f.2.length ≤ 300)) = true) : shortF l = true := by
  rw [List.take_of_length_le hi] at h2
  unfold shortF; rw [decide_eq_true h, h2]; rfl
end Go.Fld
namespace Go.Fld
theorem same_no1 {a b : List Fld.Fd} (h : ¬ (a.length : Int) = (b.length : Int)) : decide (a = b) = false := decide_eq_false fun e => h (by rw [e])
theorem same_no2 {a b : List Fld.Fd} {i : Nat} {f g : Fld.Fd} (hf : a[i]? = some f) (hg : b[i]? = some g) (h : f.1 = g.1 → ¬ f.2 = g.2) : decide (a = b) = false := decide_eq_false fun e => by
  rw [e, hg] at hf; simp only [Option.some.injEq] at hf; subst hf; exact h rfl rfl
theorem same_yes {a b : List Fld.Fd} {i : Nat} (h : (a.length : Int) = (b.length : Int)) (hi : ¬ (i : Int) < (a.length : Int)) (h2 : a.take i = b.take i) : decide (a = b) = true := decide_eq_true (by
  rw [List.take_of_length_le (by omega), List.take_of_length_le (by omega)] at h2; exact h2)
theorem same_next {a b : List Fld.Fd} {i : Nat} {f g : Fld.Fd} (hf : a[i]? = some f) (hg : b[i]? = some g) (h : f.1 = g.1 ∧ f.2 = g.2) (h2 : a.take i = b.take i) : a.take (i + 1) = b.take (i + 1) := by
  rw [take_next hf, take_next hg, h2]; congr 2; exact Prod.ext h.1 h.2
end Go.Fld
