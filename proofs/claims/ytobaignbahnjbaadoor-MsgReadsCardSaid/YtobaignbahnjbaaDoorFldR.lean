/- Small plain facts for the walks over fields. -/
import Derived.Test.YtobaignbahnjbaaDoorFldQ
import GoSem.Core.Utf8
import Derived.WalkKit
set_option linter.unusedVariables false
set_option linter.unusedSimpArgs false
namespace Go.Fld
open Go
theorem u8_eq {b c : UInt8} {n : Int} (h : (b.toNat : Int) = n) (hc : (c.toNat : Int) = n) : b = c := UInt8.toNat_inj.1 (by omega)
theorem u8_ne {b c : UInt8} {n : Int} (h : ¬ (b.toNat : Int) = n) (hc : (c.toNat : Int) = n) : b ≠ c := fun e => h (by rw [e]; exact hc)
theorem mem_at {l : Bs} {i : Nat} {b c : UInt8} {n : Int} (hb : l[i]? = some b) (h : (b.toNat : Int) = n) (hc : (c.toNat : Int) = n) : c ∈ l := by
  rw [← u8_eq h hc]; exact List.mem_of_getElem? hb
theorem take_next {α : Type} {l : List α} {i : Nat} {b : α} (hb : l[i]? = some b) : l.take (i + 1) = l.take i ++ [b] := by
  rw [List.take_add_one, hb]; rfl
theorem nmem_next {l : Bs} {i : Nat} {b c : UInt8} (hb : l[i]? = some b) (h : c ∉ l.take i) (hn : b ≠ c) : c ∉ l.take (i + 1) := by
  rw [take_next hb]; simp only [List.mem_append, List.mem_singleton, not_or]; exact ⟨h, fun e => hn e.symm⟩
theorem right_eq {f : Fld.Fd} {b : Bool} (h : (b = true) ↔ (1 ≤ f.1 ∧ f.1 ≤ 9999 ∧ 1 ≤ f.2.length ∧ f.2.length ≤ 256 ∧ (1 : UInt8) ∉ f.2)) : b = rightF f := Bool.eq_iff_iff.2 (by rw [rightF_iff]; exact h)
def msr (n : Int) : Nat := if n < 0 then 2 * n.natAbs + 1 else 2 * n.toNat
theorem drop_at {α : Type} {l : List α} {i : Nat} {b : α} (hb : l[i]? = some b) : l.drop i = b :: l.drop (i + 1) := by
  have h : i < l.length := by
    rcases Nat.lt_or_ge i l.length with h | h
    · exact h
    · rw [List.getElem?_eq_none h] at hb; simp at hb
  rw [List.drop_eq_getElem_cons h]
  rw [List.getElem?_eq_getElem h] at hb
  simp only [Option.some.injEq] at hb; rw [hb]
theorem get_lt {α : Type} {l : List α} {i : Nat} {b : α} (hb : l[i]? = some b) : i < l.length := by
  rcases Nat.lt_or_ge i l.length with h | h
  · exact h
  · rw [List.getElem?_eq_none h] at hb; simp at hb
end Go.Fld
namespace Go.Fld
open Go
theorem show_len (n : Int) : (showF n).length ≤ 20 := by
  unfold showF
  split
  · rename_i h
    simp only [numOK, Bool.and_eq_true, decide_eq_true_eq] at h
    unfold Lib.itoa
    split
    · have := dec_len (u := n.natAbs) (k := 19) (by omega) (by omega)
      simp; omega
    · have := dec_len (u := n.toNat) (k := 19) (by omega) (by omega)
      omega
  · simp
theorem show_neg {n : Int} (h : numOK n = true) (hn : n < 0) : showF n = 45 :: showF (-n) := by
  have h' := h
  simp only [numOK, Bool.and_eq_true, decide_eq_true_eq] at h'
  have h2 : numOK (-n) = true := by simp only [numOK, Bool.and_eq_true, decide_eq_true_eq]; omega
  rw [showF, showF, if_pos h, if_pos h2, Lib.itoa, Lib.itoa, if_pos hn, if_neg (by omega)]
  congr 2; omega
theorem show_dig {n : Int} (h0 : 0 ≤ n) (h1 : n < 10) : showF n = [UInt8.ofNat (48 + n.toNat)] := by
  have h : numOK n = true := by simp only [numOK, Bool.and_eq_true, decide_eq_true_eq]; omega
  rw [showF, if_pos h, Lib.itoa, if_neg (by omega), Lib.decDigits_one (by omega)]
theorem show_big {n : Int} (h : numOK n = true) (h1 : 10 ≤ n) : showF n = showF (n.tdiv 10) ++ [UInt8.ofNat (48 + (n.tmod 10).toNat)] := by
  have h' := h
  simp only [numOK, Bool.and_eq_true, decide_eq_true_eq] at h'
  rw [Int.tdiv_eq_ediv_of_nonneg (by omega), Int.tmod_eq_emod_of_nonneg (by omega)]
  have h2 : numOK (n / 10) = true := by simp only [numOK, Bool.and_eq_true, decide_eq_true_eq]; omega
  rw [showF, showF, if_pos h, if_pos h2, Lib.itoa, Lib.itoa, if_neg (by omega), if_neg (by omega)]
  rw [Lib.decDigits, dif_neg (by omega)]
  have e1 : n.toNat / 10 = (n / 10).toNat := by omega
  have e2 : n.toNat % 10 = (n % 10).toNat := by omega
  rw [e1, e2]
theorem enc_dig {d : Int} (h0 : 0 ≤ d) (h1 : d < 10) : Utf8.encode (IntKind.i32.wrap (IntKind.i64.wrap (48 + d))) = ⟨[UInt8.ofNat (48 + d.toNat)].toArray⟩ := by
  obtain rfl | rfl | rfl | rfl | rfl | rfl | rfl | rfl | rfl | rfl : d = 0 ∨ d = 1 ∨ d = 2 ∨ d = 3 ∨ d = 4 ∨ d = 5 ∨ d = 6 ∨ d = 7 ∨ d = 8 ∨ d = 9 := by omega
  all_goals decide
theorem numOK_iff {n : Int} : numOK n = true ↔ -4611686018427387904 ≤ n ∧ n ≤ 4611686018427387904 := by
  simp only [numOK, Bool.and_eq_true, decide_eq_true_eq]
end Go.Fld
namespace Go.Fld
theorem msr_neg {n : Int} (h : numOK n = true) (hn : n < 0) : msr (IntKind.i64.wrap (0 - n)) < msr n := by
  have hh := numOK_iff.1 h
  have e : IntKind.i64.wrap (0 - n) = 0 - n := by rw [IntKind.wrap_i64]; omega
  rw [e]; unfold msr; rw [if_neg (by omega), if_pos hn]; omega
theorem wdiv {n : Int} (h : numOK n = true) : IntKind.i64.wrap (n.tdiv 10) = n.tdiv 10 := by
  have hh := numOK_iff.1 h
  rw [IntKind.wrap_i64]
  rcases Int.le_total 0 n with h0 | h0
  · rw [Int.tdiv_eq_ediv_of_nonneg h0]; omega
  · have : n.tdiv 10 = -((-n) / 10) := by rw [← Int.neg_neg n, Int.neg_tdiv, Int.tdiv_eq_ediv_of_nonneg (by omega), Int.neg_neg]
    rw [this]; omega
theorem msr_div {n : Int} (h : numOK n = true) (hn : ¬ n < 10) : msr (IntKind.i64.wrap (n.tdiv 10)) < msr n := by
  rw [wdiv h, Int.tdiv_eq_ediv_of_nonneg (by omega)]; unfold msr; rw [if_neg (by omega), if_neg (by omega)]; omega
end Go.Fld
namespace Go.Fld
open Go
theorem signed_eq (l : Bs) : Lib.trimPrefix l [45] = (signed l).1 ∧ Lib.hasPrefix l [45] = (signed l).2 := by
  unfold signed
  split
  · constructor <;> simp [Lib.trimPrefix, Lib.hasPrefix]
  · rename_i h
    have : Lib.hasPrefix l [45] = false := by
      cases l with
      | nil => rfl
      | cons c r =>
        simp only [Lib.hasPrefix, List.isPrefixOf, Bool.and_true]
        rw [beq_eq_false_iff_ne]
        intro e; exact h r (by rw [← e])
    rw [Lib.trimPrefix, this]; exact ⟨rfl, rfl⟩
theorem parse_long {l : Bs} (h : 20 < l.length) : parseF l = (0, 4) := by unfold parseF; rw [if_pos h]
theorem parse_form {l : Bs} (h : ¬ 20 < l.length) (h1 : (signed l).1 = [] ∨ ((signed l).1.head? = some 48 ∧ 1 < l.length)) : parseF l = (0, 3) := by unfold parseF; rw [if_neg h, if_pos h1]
theorem parse_dig {l : Bs} (h : ¬ 20 < l.length) (h2 : (signed l).1.all isDig = false) : parseF l = (0, 3) := by
  unfold parseF; rw [if_neg h]; split
  · rfl
  · rfl
theorem parse_over {l : Bs} (h : ¬ 20 < l.length) (h1 : ¬ ((signed l).1 = [] ∨ ((signed l).1.head? = some 48 ∧ 1 < l.length))) (h2 : (signed l).1.all isDig = true) (h3 : 4611686018427387904 < decVal 0 (signed l).1) : parseF l = (0, 9) := by
  unfold parseF; rw [if_neg h, if_neg h1, if_neg (by rw [h2]; simp), if_pos h3]
theorem parse_ok {l : Bs} (h : ¬ 20 < l.length) (h1 : ¬ ((signed l).1 = [] ∨ ((signed l).1.head? = some 48 ∧ 1 < l.length))) (h2 : (signed l).1.all isDig = true) (h3 : ¬ 4611686018427387904 < decVal 0 (signed l).1) :
    parseF l = (if (signed l).2 = true then -((decVal 0 (signed l).1 : Nat) : Int) else ((decVal 0 (signed l).1 : Nat) : Int), 0) := by
  unfold parseF; rw [if_neg h, if_neg h1, if_neg (by rw [h2]; simp), if_neg h3]
theorem all_next {l : Bs} {i : Nat} {b : UInt8} (hb : l[i]? = some b) (h : (l.take i).all isDig = true) (h1 : ¬ (b.toNat : Int) < 48) (h2 : ¬ 57 < (b.toNat : Int)) : (l.take (i + 1)).all isDig = true := by
  rw [take_next hb, List.all_append, h]
  simp only [List.all_cons, List.all_nil, Bool.and_true, Bool.true_and, isDig, Bool.and_eq_true, decide_eq_true_eq]; omega
theorem all_not {l : Bs} {i : Nat} {b : UInt8} (hb : l[i]? = some b) (h : (b.toNat : Int) < 48 ∨ 57 < (b.toNat : Int)) : l.all isDig = false := by
  rw [Bool.eq_false_iff]; intro e
  rw [List.all_eq_true] at e
  have := e b (List.mem_of_getElem? hb)
  simp only [isDig, Bool.and_eq_true, decide_eq_true_eq] at this; omega
theorem head_at {l : Bs} {b : UInt8} (hb : l[0]? = some b) : l.head? = some b := by rw [List.head?_eq_getElem?]; exact hb
end Go.Fld
namespace Go.Fld
theorem signed_len (l : Bs) : (signed l).1.length ≤ l.length := by
  unfold signed; split <;> simp
end Go.Fld
namespace Go.Fld
theorem all_done {l : Bs} {i : Nat} (h1 : i ≤ l.length) (c : ¬ (i : Int) < (l.length : Int)) (h2 : (l.take i).all isDig = true) : l.all isDig = true := by
  rw [List.take_of_length_le (by omega)] at h2; exact h2
theorem signed_one {l : Bs} (h : (signed l).2 = true) : l.length = (signed l).1.length + 1 := by
  unfold signed at h ⊢; split at h
  · rfl
  · simp at h
theorem signed_no {l : Bs} (h : (signed l).2 = false) : (signed l).1 = l := by
  unfold signed at h ⊢; split at h
  · simp at h
  · rfl
theorem form_yes1 {l : Bs} {b : UInt8} (hb : (signed l).1[0]? = some b) (h : (b.toNat : Int) = 48) (h2 : (signed l).2 = true) : (signed l).1 = [] ∨ ((signed l).1.head? = some 48 ∧ 1 < l.length) := by
  right
  have e : b = 48 := u8_eq h rfl
  refine ⟨by rw [head_at hb, e], ?_⟩
  have := signed_one h2
  have := get_lt hb
  omega
theorem form_yes2 {l : Bs} {b : UInt8} (hb : (signed l).1[0]? = some b) (h : (b.toNat : Int) = 48) (h2 : (1 : Int) < ((signed l).1.length : Int)) : (signed l).1 = [] ∨ ((signed l).1.head? = some 48 ∧ 1 < l.length) := by
  right
  have e : b = 48 := u8_eq h rfl
  refine ⟨by rw [head_at hb, e], ?_⟩
  have := signed_len l
  omega
theorem form_no1 {l : Bs} {b : UInt8} (hb : (signed l).1[0]? = some b) (h : ¬ (b.toNat : Int) = 48) : ¬ ((signed l).1 = [] ∨ ((signed l).1.head? = some 48 ∧ 1 < l.length)) := by
  rintro (e | ⟨e, _⟩)
  · rw [e] at hb; simp at hb
  · rw [head_at hb] at e; simp only [Option.some.injEq] at e; subst e; exact h rfl
theorem form_no2 {l : Bs} (ha : ¬ (signed l).1 = []) (h : (signed l).2 = false) (h1 : ¬ (1 : Int) < ((signed l).1.length : Int)) : ¬ ((signed l).1 = [] ∨ ((signed l).1.head? = some 48 ∧ 1 < l.length)) := by
  rintro (e | ⟨_, e⟩)
  · exact ha e
  · rw [signed_no h] at h1; omega
end Go.Fld
namespace Go.Fld
open Go
/-- How many bytes the sign takes. -/
def sg (s : Bs) : Nat := if (signed s).2 = true then 1 else 0
theorem sg_drop (s : Bs) : s.drop (sg s) = (signed s).1 ∧ sg s + (signed s).1.length = s.length := by
  unfold sg signed; split <;> simp <;> omega
theorem sg_one {s : Bs} {b : UInt8} (hb : s[0]? = some b) (h : (b.toNat : Int) = 45) : sg s = 1 := by
  have e : b = 45 := u8_eq h rfl
  subst e
  cases s with
  | nil => simp at hb
  | cons c r => simp at hb; subst hb; rfl
theorem sg_zero1 {s : Bs} (h : ¬ (0 : Int) < (s.length : Int)) : sg s = 0 := by
  have : s = [] := List.eq_nil_of_length_eq_zero (by omega)
  subst this; rfl
theorem sg_zero2 {s : Bs} {b : UInt8} (hb : s[0]? = some b) (h : ¬ (b.toNat : Int) = 45) : sg s = 0 := by
  unfold sg
  rw [if_neg]
  intro e
  cases s with
  | nil => simp at hb
  | cons c r =>
    simp at hb; subst hb
    unfold signed at e
    split at e
    · rename_i heq; simp at heq; exact h (by rw [heq.1]; rfl)
    · simp at e
theorem sg_get {s : Bs} {j : Nat} : s[sg s + j]? = (signed s).1[j]? := by
  rw [← (sg_drop s).1, List.getElem?_drop]
end Go.Fld
namespace Go.Fld
open Go
theorem r1_no {s : Bs} {i0 : Nat} {b : UInt8} (hJ : i0 = sg s) (hb : s[i0]? = some b) (hc : ¬ (b.toNat : Int) = 48 ∨ ¬ (1 : Int) < (s.length : Int)) : ¬ ((signed s).1 = [] ∨ ((signed s).1.head? = some 48 ∧ 1 < s.length)) := by
  have hlt := get_lt hb
  have hsg := (sg_drop s).2
  have hb' : (signed s).1[0]? = some b := by rw [← sg_get, Nat.add_zero, ← hJ]; exact hb
  rcases hc with hc | hc
  · exact form_no1 hb' hc
  · rintro (e | ⟨_, e⟩)
    · rw [e] at hb'; simp at hb'
    · omega
theorem r1_yes1 {s : Bs} {i0 : Nat} (hJ : i0 = sg s) (h : (i0 : Int) = (s.length : Int)) : (signed s).1 = [] ∨ ((signed s).1.head? = some 48 ∧ 1 < s.length) := by
  left
  have hsg := (sg_drop s).2
  exact List.eq_nil_of_length_eq_zero (by omega)
theorem r1_yes2 {s : Bs} {i0 : Nat} {b : UInt8} (hJ : i0 = sg s) (hb : s[i0]? = some b) (h : (b.toNat : Int) = 48) (h2 : (1 : Int) < (s.length : Int)) : (signed s).1 = [] ∨ ((signed s).1.head? = some 48 ∧ 1 < s.length) := by
  right
  have hb' : (signed s).1[0]? = some b := by rw [← sg_get, Nat.add_zero, ← hJ]; exact hb
  have e : b = 48 := u8_eq h rfl
  exact ⟨by rw [head_at hb', e], by omega⟩
theorem val_next {l : Bs} {j : Nat} {b : UInt8} (hb : l[j]? = some b) : decVal 0 (l.take (j + 1)) = decVal 0 (l.take j) * 10 + (b.toNat - 48) := by
  rw [take_next hb, decVal_append, decVal_cons, decVal_nil]
theorem r1_get {s : Bs} {i0 j : Nat} {b : UInt8} (hJ : i0 = sg s) (hb : s[i0 + j]? = some b) : (signed s).1[j]? = some b := by rw [← sg_get, ← hJ]; exact hb
theorem r1_over1 {l : Bs} {j : Nat} {b : UInt8} (hb : l[j]? = some b) (h : 4611686018427387904 < decVal 0 (l.take j)) : 4611686018427387904 < decVal 0 (l.take (j + 1)) := by
  rw [val_next hb]; omega
theorem r1_over2 {l : Bs} {j n : Nat} {b : UInt8} (hb : l[j]? = some b) (hn : n = decVal 0 (l.take j)) (h : (461168601842738790 : Int) < (n : Int)) : 4611686018427387904 < decVal 0 (l.take (j + 1)) := by
  rw [val_next hb]; omega
end Go.Fld
namespace Go.Fld
open Go
theorem wrap_u64' (n : Int) : IntKind.u64.wrap n = n % 18446744073709551616 := by simp [IntKind.wrap, IntKind.bits, IntKind.signed]
theorem r1_add {n : Nat} {b : UInt8} (h1 : ¬ (b.toNat : Int) < 48) (h2 : ¬ (57 : Int) < (b.toNat : Int)) (h : ¬ (461168601842738790 : Int) < (n : Int)) :
    IntKind.u64.wrap (IntKind.u64.wrap ((n : Int) * 10) + IntKind.u64.wrap (IntKind.u8.wrap ((b.toNat : Int) - 48))) = ((n * 10 + (b.toNat - 48) : Nat) : Int) := by
  rw [wrap_u64', wrap_u64', wrap_u64', IntKind.wrap_u8]; omega
end Go.Fld
namespace Go.Fld
open Go
theorem r1_end {s : Bs} {i0 j : Nat} (hJ : i0 = sg s) (h1 : j ≤ (signed s).1.length) (c : ¬ ((i0 + j : Nat) : Int) < (s.length : Int)) : (signed s).1.take j = (signed s).1 := by
  have hsg := (sg_drop s).2
  exact List.take_of_length_le (by omega)
theorem sg_yes {s : Bs} {i0 : Nat} (hJ : i0 = sg s) (h : (i0 : Int) = 1) : (signed s).2 = true := by
  unfold sg at hJ; split at hJ
  · assumption
  · omega
theorem sg_no {s : Bs} {i0 : Nat} (hJ : i0 = sg s) (h : ¬ (i0 : Int) = 1) : (signed s).2 = false := by
  unfold sg at hJ; split at hJ
  · omega
  · rename_i h'; simpa using h'
end Go.Fld
