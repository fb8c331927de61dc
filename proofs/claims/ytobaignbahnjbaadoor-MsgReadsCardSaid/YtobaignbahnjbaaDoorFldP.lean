/- Plain facts on decimal numerals, fields and lists of fields: no program in sight. -/
import Derived.Lib.ParseIntB
import Derived.Lib.ItoaNum
import Derived.Lib.IndexMore
import Derived.Lib.Strings
set_option linter.unusedVariables false
set_option linter.unusedSimpArgs false
namespace Go.Fld
open Go

abbrev Bs := List UInt8
def isDig (c : UInt8) : Bool := decide (48 ≤ c.toNat) && decide (c.toNat ≤ 57)
/-- What digits spell, behind what was spelt before. -/
def decVal (acc : Nat) (l : Bs) : Nat := l.foldl (fun a c => a * 10 + (c.toNat - 48)) acc
theorem decVal_nil (a : Nat) : decVal a [] = a := by unfold decVal; rw [List.foldl_nil]
theorem decVal_cons (a : Nat) (c : UInt8) (l : Bs) : decVal a (c :: l) = decVal (a * 10 + (c.toNat - 48)) l := by unfold decVal; rw [List.foldl_cons]
attribute [irreducible] decVal
def numOK (n : Int) : Bool := decide (-4611686018427387904 ≤ n) && decide (n ≤ 4611686018427387904)
def showF (n : Int) : Bs := if numOK n = true then Lib.itoa n else []
/-- The digits behind a sign, and whether there is one. -/
def signed : Bs → Bs × Bool
  | 45 :: r => (r, true)
  | l => (l, false)
/-- A number's text: what it spells, and the error's number. -/
def parseF (l : Bs) : Int × Int :=
  if 20 < l.length then (0, 4)
  else if (signed l).1 = [] ∨ ((signed l).1.head? = some 48 ∧ 1 < l.length) then (0, 3)
  else if (signed l).1.all isDig = false then (0, 3)
  else if 4611686018427387904 < decVal 0 (signed l).1 then (0, 9)
  else (if (signed l).2 = true then -((decVal 0 (signed l).1 : Nat) : Int) else ((decVal 0 (signed l).1 : Nat) : Int), 0)

theorem decVal_append (l : Bs) : ∀ (a : Nat) (m : Bs), decVal a (l ++ m) = decVal (decVal a l) m := by
  induction l with
  | nil => intro a m; rw [List.nil_append, decVal_nil]
  | cons c l ih => intro a m; rw [List.cons_append, decVal_cons, decVal_cons, ih]
theorem decVal_acc (l : Bs) : ∀ (a : Nat), decVal a l = a * 10 ^ l.length + decVal 0 l := by
  induction l with
  | nil => intro a; simp [decVal_nil]
  | cons c l ih =>
    intro a
    simp only [decVal_cons, List.length_cons]
    rw [ih (a * 10 + _), ih (0 * 10 + _), Nat.pow_succ]
    generalize 10 ^ l.length = q
    generalize c.toNat - 48 = z
    rw [Nat.add_mul, Nat.add_mul, Nat.mul_assoc, Nat.mul_comm 10 q]
    omega
theorem decVal_lt : ∀ (l : Bs), l.all isDig = true → decVal 0 l < 10 ^ l.length
  | [], _ => by simp [decVal_nil]
  | c :: l, h => by
    simp only [List.all_cons, Bool.and_eq_true, isDig, decide_eq_true_eq] at h
    have := decVal_lt l h.2
    simp only [decVal_cons, List.length_cons]
    rw [decVal_acc]
    simp only [Nat.zero_mul, Nat.zero_add, Nat.pow_succ]
    have h9 : (c.toNat - 48) * 10 ^ l.length ≤ 9 * 10 ^ l.length := Nat.mul_le_mul_right _ (by omega)
    generalize 10 ^ l.length = q at *
    generalize (c.toNat - 48) * q = z at *
    omega
theorem decVal_le (a : Nat) (l : Bs) : a ≤ decVal a l := by
  rw [decVal_acc]
  have h1 : 1 ≤ 10 ^ l.length := Nat.one_le_pow _ _ (by decide)
  generalize 10 ^ l.length = q at *
  have := Nat.mul_le_mul_left a h1
  generalize a * q = z at *
  omega
theorem decVal_lead {c : UInt8} {l : Bs} (h : isDig c = true) (h0 : c ≠ 48) : 10 ^ l.length ≤ decVal 0 (c :: l) := by
  simp only [isDig, Bool.and_eq_true, decide_eq_true_eq] at h
  simp only [decVal_cons, Nat.zero_mul, Nat.zero_add]
  rw [decVal_acc]
  have h1 : 1 ≤ c.toNat - 48 := by
    have : c.toNat ≠ 48 := fun e => h0 (UInt8.toNat_inj.1 (by simpa using e))
    omega
  have := Nat.mul_le_mul_right (10 ^ l.length) h1
  generalize 10 ^ l.length = q at *
  generalize (c.toNat - 48) * q = z at *
  omega

theorem digOf {u : Nat} (h : u < 10) : isDig (UInt8.ofNat (48 + u)) = true ∧ (UInt8.ofNat (48 + u)).toNat - 48 = u := by
  have : (UInt8.ofNat (48 + u)).toNat = 48 + u := by simp; omega
  simp only [isDig, this, Bool.and_eq_true, decide_eq_true_eq]
  omega
theorem ofDig {c : UInt8} (h : isDig c = true) : UInt8.ofNat (48 + (c.toNat - 48)) = c := by
  simp only [isDig, Bool.and_eq_true, decide_eq_true_eq] at h
  apply UInt8.toNat_inj.1
  simp; omega

theorem decDigits_dig (u : Nat) : (Lib.decDigits u).all isDig = true := by
  induction u using Nat.strongRecOn with
  | _ u ih =>
    rw [Lib.decDigits]
    split
    · rename_i h; simp only [List.all_cons, List.all_nil, Bool.and_true]; exact (digOf h).1
    · rename_i h
      simp only [List.all_append, List.all_cons, List.all_nil, Bool.and_true, ih (u / 10) (by omega), Bool.true_and]
      exact (digOf (Nat.mod_lt u (by decide : 0 < 10))).1
theorem decDigits_val (u : Nat) : decVal 0 (Lib.decDigits u) = u := by
  induction u using Nat.strongRecOn with
  | _ u ih =>
    rw [Lib.decDigits]
    split
    · rename_i h; simp only [decVal_cons, decVal_nil]; rw [(digOf h).2]; omega
    · rename_i h
      rw [decVal_append, ih (u / 10) (by omega)]
      simp only [decVal_cons, decVal_nil]
      rw [(digOf (Nat.mod_lt u (by decide : 0 < 10))).2]
      omega
theorem decDigits_ne (u : Nat) : Lib.decDigits u ≠ [] := by
  rw [Lib.decDigits]; split <;> simp
theorem decDigits_head (u : Nat) (h : u ≠ 0) : (Lib.decDigits u).head? ≠ some 48 := by
  induction u using Nat.strongRecOn with
  | _ u ih =>
    rw [Lib.decDigits]
    split
    · rename_i h1
      simp only [List.head?_cons, ne_eq, Option.some.injEq]
      intro e
      have := (digOf h1).2
      rw [e] at this
      simp at this; omega
    · rename_i h1
      have h2 := decDigits_ne (u / 10)
      rw [List.head?_append]
      cases hh : (Lib.decDigits (u / 10)).head? with
      | none => exact absurd (List.head?_eq_none_iff.1 hh) h2
      | some x => simp only [Option.some_or]; rw [← hh]; exact ih (u / 10) (by omega) (by omega)
/-- Digits without a 0 ahead are the numeral of what they spell. -/
theorem decDigits_of : ∀ (n : Nat) (l : Bs), l.length = n → l.all isDig = true → l ≠ [] → (l.head? = some 48 → l.length = 1) → Lib.decDigits (decVal 0 l) = l := by
  intro n
  induction n with
  | zero => intro l hl _ hn; exact absurd (List.eq_nil_of_length_eq_zero hl) hn
  | succ n ih =>
    intro l hl hd hn h0
    obtain ⟨m, c, rfl⟩ : ∃ m c, l = m ++ [c] := ⟨l.dropLast, l.getLast hn, (List.dropLast_concat_getLast hn).symm⟩
    simp only [List.all_append, List.all_cons, List.all_nil, Bool.and_true, Bool.and_eq_true] at hd
    have hc := hd.2
    have hc' : c.toNat - 48 < 10 := by simp only [isDig, Bool.and_eq_true, decide_eq_true_eq] at hc; omega
    rw [decVal_append]
    simp only [decVal_cons, decVal_nil]
    cases m with
    | nil =>
      simp only [decVal_nil, List.nil_append]
      rw [Lib.decDigits_one (by omega)]
      simp only [Nat.zero_mul, Nat.zero_add]
      rw [ofDig hc]
    | cons d m =>
      simp only [List.length_append, List.length_cons, List.length_nil] at hl
      have hd0 : d ≠ 48 := by
        intro e; subst e
        have := h0 (by simp); simp at this
      have h1 := ih (d :: m) (by simpa using hl) hd.1 (by simp) (by intro e; simp at e; exact absurd e hd0)
      have h2 := decVal_lead (l := m) (by simpa using (by simpa using hd.1 : _ ∧ _).1 : isDig d = true) hd0
      have h3 : 1 ≤ decVal 0 (d :: m) := Nat.le_trans (Nat.one_le_pow _ _ (by decide)) h2
      rw [Lib.decDigits, dif_neg (by omega)]
      have e1 : (decVal 0 (d :: m) * 10 + (c.toNat - 48)) / 10 = decVal 0 (d :: m) := by omega
      have e2 : (decVal 0 (d :: m) * 10 + (c.toNat - 48)) % 10 = c.toNat - 48 := by omega
      rw [e1, e2, h1, ofDig hc]

theorem dec_len {u k : Nat} (h : u < 10 ^ k) (hk : 0 < k) : (Lib.decDigits u).length ≤ k := by
  rw [Lib.decDigits_length]
  induction k generalizing u with
  | zero => omega
  | succ k ih =>
    by_cases hu : u < 10
    · rw [Lib.nDigits_small hu]; omega
    · rw [Lib.nDigits_big hu]
      cases k with
      | zero => simp at h; omega
      | succ k => have := ih (u := u / 10) (by rw [Nat.pow_succ] at h; omega) (by omega); omega

theorem signed_dec (u : Nat) : signed (Lib.decDigits u) = (Lib.decDigits u, false) := by
  have h := decDigits_dig u
  unfold signed
  split
  · rename_i r h'; rw [h'] at h; simp [isDig] at h
  · rfl

/-- A number's text is read as it. -/
theorem parse_show {n : Int} (h : numOK n = true) : parseF (showF n) = (n, 0) := by
  have hh := h
  simp only [numOK, Bool.and_eq_true, decide_eq_true_eq] at hh
  rw [showF, if_pos h, Lib.itoa]
  by_cases hn : n < 0
  · rw [if_pos hn]
    have h1 : signed (45 :: Lib.decDigits n.natAbs) = (Lib.decDigits n.natAbs, true) := rfl
    have hl := dec_len (u := n.natAbs) (k := 19) (by omega) (by omega)
    unfold parseF
    rw [h1]
    simp only [decDigits_val, decDigits_dig]
    rw [if_neg (by simp; omega), if_neg, if_neg (by simp), if_neg (by omega)]
    · simp; omega
    · rintro (e | ⟨e, _⟩)
      · exact decDigits_ne _ e
      · exact decDigits_head _ (by omega) e
  · rw [if_neg hn]
    have hl := dec_len (u := n.toNat) (k := 19) (by omega) (by omega)
    unfold parseF
    rw [signed_dec]
    simp only [decDigits_val, decDigits_dig]
    rw [if_neg (by omega), if_neg, if_neg (by simp), if_neg (by omega)]
    · simp; omega
    · rintro (e | ⟨e, e2⟩)
      · exact decDigits_ne _ e
      · by_cases h0 : n.toNat = 0
        · rw [h0] at e2; simp [Lib.decDigits] at e2
        · exact decDigits_head _ h0 e

/-- What is read shows as it was. -/
theorem show_parse {l : Bs} {n : Int} (h : parseF l = (n, 0)) : numOK n = true ∧ showF n = l := by
  unfold parseF at h
  split at h
  · simp at h
  rename_i hlen
  split at h
  · simp at h
  rename_i hne
  split at h
  · simp at h
  rename_i hd
  split at h
  · simp at h
  rename_i hv
  replace hd : (signed l).1.all isDig = true := by simpa using hd
  replace hne : (signed l).1 ≠ [] ∧ ((signed l).1.head? = some 48 → l.length ≤ 1) := by
    constructor
    · intro e; exact hne (.inl e)
    · intro e; apply Nat.le_of_not_lt; intro h'; exact hne (.inr ⟨e, h'⟩)
  simp only [Prod.mk.injEq, and_true] at h
  generalize hs : signed l = s at *
  obtain ⟨ds, b⟩ := s
  simp only at h hd hne hv
  cases b with
  | true =>
    simp only [if_true] at h
    have hl : l = 45 :: ds := by
      unfold signed at hs; split at hs
      · simp only [Prod.mk.injEq, and_true] at hs; rw [hs]
      · simp at hs
    subst hl
    have h0 : ds.head? ≠ some 48 := fun e => by
      have h1 := hne.2 e
      cases ds with
      | nil => simp at e
      | cons => simp at h1
    have h2 := decDigits_of _ ds rfl hd hne.1 (fun e => absurd e h0)
    have h3 : decVal 0 ds ≠ 0 := by
      intro e
      rw [e] at h2
      rw [← h2] at h0
      simp [Lib.decDigits] at h0
    have hok : numOK n = true := by simp only [numOK, Bool.and_eq_true, decide_eq_true_eq]; omega
    refine ⟨hok, ?_⟩
    rw [showF, if_pos hok, Lib.itoa, if_pos (by omega)]
    have : n.natAbs = decVal 0 ds := by omega
    rw [this, h2]
  | false =>
    simp only [Bool.false_eq_true, if_false] at h
    have hl : ds = l := by
      unfold signed at hs; split at hs
      · simp at hs
      · simp only [Prod.mk.injEq, and_true] at hs; exact hs.symm
    subst hl
    have h2 := decDigits_of _ ds rfl hd hne.1 (fun e => by
      have h1 := hne.2 e
      cases ds with
      | nil => simp at e
      | cons => simp at h1 ⊢; omega)
    have hok : numOK n = true := by simp only [numOK, Bool.and_eq_true, decide_eq_true_eq]; omega
    refine ⟨hok, ?_⟩
    rw [showF, if_pos hok, Lib.itoa, if_neg (by omega)]
    have : n.toNat = decVal 0 ds := by omega
    rw [this, h2]
end Go.Fld
