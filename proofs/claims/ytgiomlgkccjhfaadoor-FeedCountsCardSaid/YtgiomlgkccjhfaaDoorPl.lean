/- The layer, the plain facts: several texts of one chain, put together (FldP, FldQ, FldR, FldS, FldT, FrmA, FrmB, FrmC, FrmD). -/
import Derived.Lib.ParseIntB
import Derived.Lib.ItoaNum
import Derived.Lib.IndexMore
import Derived.Lib.Strings
import GoSem.Core.Utf8
import Derived.WalkKit
/- Plain facts on decimal numerals, fields and lists of fields: no program in sight. -/
set_option linter.unusedVariables false
set_option linter.unusedSimpArgs false
namespace Go.Fld
open Go

abbrev Bs := List UInt8
def isDig (c : UInt8) : Bool := decide (48 ≤ c.toNat) && decide (c.toNat ≤ 57)
/-- What digits spell, behind what was spelt before. -/
def decVal (acc : Nat) (l : Bs) : Nat := l.foldl (fun a c => a * 10 + (c.toNat - 48)) acc
theorem decVal_nil (a : Nat) : decVal a [] = a := by unfold decVal; rw [List.foldl_nil]
theorem decVal_cons (a : Nat) (c : UInt8) (l : Bs) : decVal a (c :: l) = decVal (a * 10 + (c.toNat - 48)) l := by unfold decVal; rw [List.foldl_cons]
attribute [irreducible] decVal
def numOK (n : Int) : Bool := decide (-4611686018427387904 ≤ n) && decide (n ≤ 4611686018427387904)
def showF (n : Int) : Bs := if numOK n = true then Lib.itoa n else []
/-- The digits behind a sign, and whether there is one. -/
def signed : Bs → Bs × Bool
  | 45 :: r => (r, true)
  | l => (l, false)
/-- A number's text: what it spells, and the error's number. -/
def parseF (l : Bs) : Int × Int :=
  if 20 < l.length then (0, 4)
  else if (signed l).1 = [] ∨ ((signed l).1.head? = some 48 ∧ 1 < l.length) then (0, 3)
  else if (signed l).1.all isDig = false then (0, 3)
  else if 4611686018427387904 < decVal 0 (signed l).1 then (0, 9)
  else (if (signed l).2 = true then -((decVal 0 (signed l).1 : Nat) : Int) else ((decVal 0 (signed l).1 : Nat) : Int), 0)

theorem decVal_append (l : Bs) : ∀ (a : Nat) (m : Bs), decVal a (l ++ m) = decVal (decVal a l) m := by
  induction l with
  | nil => intro a m; rw [List.nil_append, decVal_nil]
  | cons c l ih => intro a m; rw [List.cons_append, decVal_cons, decVal_cons, ih]
theorem decVal_acc (l : Bs) : ∀ (a : Nat), decVal a l = a * 10 ^ l.length + decVal 0 l := by
  induction l with
  | nil => intro a; simp [decVal_nil]
  | cons c l ih =>
    intro a
    simp only [decVal_cons, List.length_cons]
    rw [ih (a * 10 + _), ih (0 * 10 + _), Nat.pow_succ]
    generalize 10 ^ l.length = q
    generalize c.toNat - 48 = z
    rw [Nat.add_mul, Nat.add_mul, Nat.mul_assoc, Nat.mul_comm 10 q]
    omega
theorem decVal_lt : ∀ (l : Bs), l.all isDig = true → decVal 0 l < 10 ^ l.length
  | [], _ => by simp [decVal_nil]
  | c :: l, h => by
    simp only [List.all_cons, Bool.and_eq_true, isDig, decide_eq_true_eq] at h
    have := decVal_lt l h.2
    simp only [decVal_cons, List.length_cons]
    rw [decVal_acc]
    simp only [Nat.zero_mul, Nat.zero_add, Nat.pow_succ]
    have h9 : (c.toNat - 48) * 10 ^ l.length ≤ 9 * 10 ^ l.length := Nat.mul_le_mul_right _ (by omega)
    generalize 10 ^ l.length = q at *
    generalize (c.toNat - 48) * q = z at *
    omega
theorem decVal_le (a : Nat) (l : Bs) : a ≤ decVal a l := by
  rw [decVal_acc]
  have h1 : 1 ≤ 10 ^ l.length := Nat.one_le_pow _ _ (by decide)
  generalize 10 ^ l.length = q at *
  have := Nat.mul_le_mul_left a h1
  generalize a * q = z at *
  omega
theorem decVal_lead {c : UInt8} {l : Bs} (h : isDig c = true) (h0 : c ≠ 48) : 10 ^ l.length ≤ decVal 0 (c :: l) := by
  simp only [isDig, Bool.and_eq_true, decide_eq_true_eq] at h
  simp only [decVal_cons, Nat.zero_mul, Nat.zero_add]
  rw [decVal_acc]
  have h1 : 1 ≤ c.toNat - 48 := by
    have : c.toNat ≠ 48 := fun e => h0 (UInt8.toNat_inj.1 (by simpa using e))
    omega
  have := Nat.mul_le_mul_right (10 ^ l.length) h1
  generalize 10 ^ l.length = q at *
  generalize (c.toNat - 48) * q = z at *
  omega

theorem digOf {u : Nat} (h : u < 10) : isDig (UInt8.ofNat (48 + u)) = true ∧ (UInt8.ofNat (48 + u)).toNat - 48 = u := by
  have : (UInt8.ofNat (48 + u)).toNat = 48 + u := by simp; omega
  simp only [isDig, this, Bool.and_eq_true, decide_eq_true_eq]
  omega
theorem ofDig {c : UInt8} (h : isDig c = true) : UInt8.ofNat (48 + (c.toNat - 48)) = c := by
  simp only [isDig, Bool.and_eq_true, decide_eq_true_eq] at h
  apply UInt8.toNat_inj.1
  simp; omega

theorem decDigits_dig (u : Nat) : (Lib.decDigits u).all isDig = true := by
  induction u using Nat.strongRecOn with
  | _ u ih =>
    rw [Lib.decDigits]
    split
    · rename_i h; simp only [List.all_cons, List.all_nil, Bool.and_true]; exact (digOf h).1
    · rename_i h
      simp only [List.all_append, List.all_cons, List.all_nil, Bool.and_true, ih (u / 10) (by omega), Bool.true_and]
      exact (digOf (Nat.mod_lt u (by decide : 0 < 10))).1
theorem decDigits_val (u : Nat) : decVal 0 (Lib.decDigits u) = u := by
  induction u using Nat.strongRecOn with
  | _ u ih =>
    rw [Lib.decDigits]
    split
    · rename_i h; simp only [decVal_cons, decVal_nil]; rw [(digOf h).2]; omega
    · rename_i h
      rw [decVal_append, ih (u / 10) (by omega)]
      simp only [decVal_cons, decVal_nil]
      rw [(digOf (Nat.mod_lt u (by decide : 0 < 10))).2]
      omega
theorem decDigits_ne (u : Nat) : Lib.decDigits u ≠ [] := by
  rw [Lib.decDigits]; split <;> simp
theorem decDigits_head (u : Nat) (h : u ≠ 0) : (Lib.decDigits u).head? ≠ some 48 := by
  induction u using Nat.strongRecOn with
  | _ u ih =>
    rw [Lib.decDigits]
    split
    · rename_i h1
      simp only [List.head?_cons, ne_eq, Option.some.injEq]
      intro e
      have := (digOf h1).2
      rw [e] at this
      simp at this; omega
    · rename_i h1
      have h2 := decDigits_ne (u / 10)
      rw [List.head?_append]
      cases hh : (Lib.decDigits (u / 10)).head? with
      | none => exact absurd (List.head?_eq_none_iff.1 hh) h2
      | some x => simp only [Option.some_or]; rw [← hh]; exact ih (u / 10) (by omega) (by omega)
/-- Digits without a 0 ahead are the numeral of what they spell. -/
theorem decDigits_of : ∀ (n : Nat) (l : Bs), l.length = n → l.all isDig = true → l ≠ [] → (l.head? = some 48 → l.length = 1) → Lib.decDigits (decVal 0 l) = l := by
  intro n
  induction n with
  | zero => intro l hl _ hn; exact absurd (List.eq_nil_of_length_eq_zero hl) hn
  | succ n ih =>
    intro l hl hd hn h0
    obtain ⟨m, c, rfl⟩ : ∃ m c, l = m ++ [c] := ⟨l.dropLast, l.getLast hn, (List.dropLast_concat_getLast hn).symm⟩
    simp only [List.all_append, List.all_cons, List.all_nil, Bool.and_true, Bool.and_eq_true] at hd
    have hc := hd.2
    have hc' : c.toNat - 48 < 10 := by simp only [isDig, Bool.and_eq_true, decide_eq_true_eq] at hc; omega
    rw [decVal_append]
    simp only [decVal_cons, decVal_nil]
    cases m with
    | nil =>
      simp only [decVal_nil, List.nil_append]
      rw [Lib.decDigits_one (by omega)]
      simp only [Nat.zero_mul, Nat.zero_add]
      rw [ofDig hc]
    | cons d m =>
      simp only [List.length_append, List.length_cons, List.length_nil] at hl
      have hd0 : d ≠ 48 := by
        intro e; subst e
        have := h0 (by simp); simp at this
      have h1 := ih (d :: m) (by simpa using hl) hd.1 (by simp) (by intro e; simp at e; exact absurd e hd0)
      have h2 := decVal_lead (l := m) (by simpa using (by simpa using hd.1 : _ ∧ _).1 : isDig d = true) hd0
      have h3 : 1 ≤ decVal 0 (d :: m) := Nat.le_trans (Nat.one_le_pow _ _ (by decide)) h2
      rw [Lib.decDigits, dif_neg (by omega)]
      have e1 : (decVal 0 (d :: m) * 10 + (c.toNat - 48)) / 10 = decVal 0 (d :: m) := by omega
      have e2 : (decVal 0 (d :: m) * 10 + (c.toNat - 48)) % 10 = c.toNat - 48 := by omega
      rw [e1, e2, h1, ofDig hc]

theorem dec_len {u k : Nat} (h : u < 10 ^ k) (hk : 0 < k) : (Lib.decDigits u).length ≤ k := by
  rw [Lib.decDigits_length]
  induction k generalizing u with
  | zero => omega
  | succ k ih =>
    by_cases hu : u < 10
    · rw [Lib.nDigits_small hu]; omega
    · rw [Lib.nDigits_big hu]
      cases k with
      | zero => simp at h; omega
      | succ k => have := ih (u := u / 10) (by rw [Nat.pow_succ] at h; omega) (by omega); omega

theorem signed_dec (u : Nat) : signed (Lib.decDigits u) = (Lib.decDigits u, false) := by
  have h := decDigits_dig u
  unfold signed
  split
  · rename_i r h'; rw [h'] at h; simp [isDig] at h
  · rfl

/-- A number's text is read as it. -/
theorem parse_show {n : Int} (h : numOK n = true) : parseF (showF n) = (n, 0) := by
  have hh := h
  simp only [numOK, Bool.and_eq_true, decide_eq_true_eq] at hh
  rw [showF, if_pos h, Lib.itoa]
  by_cases hn : n < 0
  · rw [if_pos hn]
    have h1 : signed (45 :: Lib.decDigits n.natAbs) = (Lib.decDigits n.natAbs, true) := rfl
    have hl := dec_len (u := n.natAbs) (k := 19) (by omega) (by omega)
    unfold parseF
    rw [h1]
    simp only [decDigits_val, decDigits_dig]
    rw [if_neg (by simp; omega), if_neg, if_neg (by simp), if_neg (by omega)]
    · simp; omega
    · rintro (e | ⟨e, _⟩)
      · exact decDigits_ne _ e
      · exact decDigits_head _ (by omega) e
  · rw [if_neg hn]
    have hl := dec_len (u := n.toNat) (k := 19) (by omega) (by omega)
    unfold parseF
    rw [signed_dec]
    simp only [decDigits_val, decDigits_dig]
    rw [if_neg (by omega), if_neg, if_neg (by simp), if_neg (by omega)]
    · simp; omega
    · rintro (e | ⟨e, e2⟩)
      · exact decDigits_ne _ e
      · by_cases h0 : n.toNat = 0
        · rw [h0] at e2; simp [Lib.decDigits] at e2
        · exact decDigits_head _ h0 e

/-- What is read shows as it was. -/
theorem show_parse {l : Bs} {n : Int} (h : parseF l = (n, 0)) : numOK n = true ∧ showF n = l := by
  unfold parseF at h
  split at h
  · simp at h
  rename_i hlen
  split at h
  · simp at h
  rename_i hne
  split at h
  · simp at h
  rename_i hd
  split at h
  · simp at h
  rename_i hv
  replace hd : (signed l).1.all isDig = true := by simpa using hd
  replace hne : (signed l).1 ≠ [] ∧ ((signed l).1.head? = some 48 → l.length ≤ 1) := by
    constructor
    · intro e; exact hne (.inl e)
    · intro e; apply Nat.le_of_not_lt; intro h'; exact hne (.inr ⟨e, h'⟩)
  simp only [Prod.mk.injEq, and_true] at h
  generalize hs : signed l = s at *
  obtain ⟨ds, b⟩ := s
  simp only at h hd hne hv
  cases b with
  | true =>
    simp only [if_true] at h
    have hl : l = 45 :: ds := by
      unfold signed at hs; split at hs
      · simp only [Prod.mk.injEq, and_true] at hs; rw [hs]
      · simp at hs
    subst hl
    have h0 : ds.head? ≠ some 48 := fun e => by
      have h1 := hne.2 e
      cases ds with
      | nil => simp at e
      | cons => simp at h1
    have h2 := decDigits_of _ ds rfl hd hne.1 (fun e => absurd e h0)
    have h3 : decVal 0 ds ≠ 0 := by
      intro e
      rw [e] at h2
      rw [← h2] at h0
      simp [Lib.decDigits] at h0
    have hok : numOK n = true := by simp only [numOK, Bool.and_eq_true, decide_eq_true_eq]; omega
    refine ⟨hok, ?_⟩
    rw [showF, if_pos hok, Lib.itoa, if_pos (by omega)]
    have : n.natAbs = decVal 0 ds := by omega
    rw [this, h2]
  | false =>
    simp only [Bool.false_eq_true, if_false] at h
    have hl : ds = l := by
      unfold signed at hs; split at hs
      · simp at hs
      · simp only [Prod.mk.injEq, and_true] at hs; exact hs.symm
    subst hl
    have h2 := decDigits_of _ ds rfl hd hne.1 (fun e => by
      have h1 := hne.2 e
      cases ds with
      | nil => simp at e
      | cons => simp at h1 ⊢; omega)
    have hok : numOK n = true := by simp only [numOK, Bool.and_eq_true, decide_eq_true_eq]; omega
    refine ⟨hok, ?_⟩
    rw [showF, if_pos hok, Lib.itoa, if_neg (by omega)]
    have : n.toNat = decVal 0 ds := by omega
    rw [this, h2]
end Go.Fld

/- Plain facts on lists of fields: what is put is read as it was. -/
set_option linter.unusedVariables false
set_option linter.unusedSimpArgs false
namespace Go.Fld
open Go

/-- What stands ahead of the first c, and behind it. -/
def cutB (c : UInt8) : Bs → Option (Bs × Bs)
  | [] => none
  | x :: l => if x = c then some ([], l) else (cutB c l).map fun p => (x :: p.1, p.2)

theorem cutB_none {c : UInt8} : ∀ {l : Bs}, cutB c l = none ↔ c ∉ l
  | [] => by simp [cutB]
  | x :: l => by
    simp only [cutB]
    split
    · rename_i h; subst h; simp
    · rename_i h
      simp only [Option.map_eq_none_iff, cutB_none (l := l), List.mem_cons, not_or]
      exact ⟨fun h' => ⟨fun e => h e.symm, h'⟩, fun h' => h'.2⟩
theorem cutB_some {c : UInt8} : ∀ {l a b : Bs}, cutB c l = some (a, b) ↔ (l = a ++ c :: b ∧ c ∉ a)
  | [], a, b => by simp [cutB]
  | x :: l, a, b => by
    simp only [cutB]
    split
    · rename_i h; subst h
      constructor
      · intro e; simp only [Option.some.injEq, Prod.mk.injEq] at e; obtain ⟨rfl, rfl⟩ := e; simp
      · rintro ⟨e, hn⟩
        cases a with
        | nil => simp at e; simp [e]
        | cons y a => simp at e; obtain ⟨rfl, _⟩ := e; simp at hn
    · rename_i h
      constructor
      · intro e
        simp only [Option.map_eq_some_iff, Prod.mk.injEq, Prod.exists] at e
        obtain ⟨a', b', h1, rfl, rfl⟩ := e
        obtain ⟨h2, h3⟩ := cutB_some.1 h1
        refine ⟨by rw [h2]; rfl, ?_⟩
        simp only [List.mem_cons, not_or]
        exact ⟨fun e => h e.symm, h3⟩
      · rintro ⟨e, hn⟩
        cases a with
        | nil => simp at e; exact absurd e.1 h
        | cons y a =>
          simp only [List.cons_append, List.cons.injEq] at e
          obtain ⟨rfl, e⟩ := e
          simp only [List.mem_cons, not_or] at hn
          rw [cutB_some.2 ⟨e, hn.2⟩]; rfl
theorem cutB_at {c : UInt8} {a : Bs} (b : Bs) (h : c ∉ a) : cutB c (a ++ c :: b) = some (a, b) := cutB_some.2 ⟨rfl, h⟩
theorem index_cut {c : UInt8} : ∀ {l : Bs}, Lib.indexByte l c = match cutB c l with | none => -1 | some p => (p.1.length : Int)
  | [] => rfl
  | x :: l => by
    simp only [Lib.indexByte, cutB]
    by_cases h : x = c
    · subst h; simp
    · have h' : (x == c) = false := by simpa using h
      rw [if_neg h, h', index_cut (l := l)]
      cases cutB c l with
      | none => simp
      | some p => simp
theorem cutB_len {c : UInt8} {l a b : Bs} (h : cutB c l = some (a, b)) : b.length < l.length := by
  obtain ⟨h1, _⟩ := cutB_some.1 h
  rw [h1]; simp; omega

abbrev Fd := Int × Bs
def rightF (f : Fd) : Bool := decide (1 ≤ f.1) && decide (f.1 ≤ 9999) && decide (1 ≤ f.2.length) && decide (f.2.length ≤ 256) && decide ((1 : UInt8) ∉ f.2)
def encF (f : Fd) : Bs := showF f.1 ++ 61 :: (f.2 ++ [1])
def encL : List Fd → Bs
  | [] => []
  | f :: l => encF f ++ encL l
def putF (l : List Fd) : Bs × Int := if 100 < l.length then ([], 4) else if l.all rightF = true then (encL l, 0) else ([], 1)
def readF (t : Bs) : Option Fd :=
  match cutB 61 t with
  | none => none
  | some (a, v) => if (parseF a).2 = 0 ∧ 1 ≤ (parseF a).1 ∧ (parseF a).1 ≤ 9999 ∧ rightF ((parseF a).1, v) = true then some ((parseF a).1, v) else none
def parseGo (acc : List Fd) (b : Bs) : List Fd × Int :=
  if b = [] then (acc, 0)
  else match h : cutB 1 b with
    | none => ([], 2)
    | some (t, r) => match readF t with
      | none => ([], 3)
      | some f => if acc.length = 100 then ([], 4) else parseGo (acc ++ [f]) r
termination_by b.length
decreasing_by exact cutB_len h
def parseL (b : Bs) : List Fd × Int := if 65536 < b.length then ([], 4) else parseGo [] b

theorem parseGo_nil {acc : List Fd} : parseGo acc [] = (acc, 0) := by rw [parseGo]; simp
theorem parseGo_short {acc : List Fd} {b : Bs} (h : b ≠ []) (hc : cutB 1 b = none) : parseGo acc b = ([], 2) := by
  rw [parseGo, if_neg h]
  split
  · rfl
  · rename_i h2; rw [hc] at h2; simp at h2
theorem parseGo_cut {acc : List Fd} {b t r : Bs} (hc : cutB 1 b = some (t, r)) : parseGo acc b = match readF t with
      | none => ([], 3)
      | some f => if acc.length = 100 then ([], 4) else parseGo (acc ++ [f]) r := by
  have h : b ≠ [] := by rintro rfl; simp [cutB] at hc
  rw [parseGo, if_neg h]
  split
  · rename_i h2; rw [hc] at h2; simp at h2
  · rename_i t' r' h2; rw [hc] at h2; simp only [Option.some.injEq, Prod.mk.injEq] at h2; obtain ⟨rfl, rfl⟩ := h2; rfl

theorem show_bytes {n : Int} (h1 : 1 ≤ n) (h2 : n ≤ 9999) : numOK n = true ∧ showF n = Lib.decDigits n.toNat ∧ (1 : UInt8) ∉ showF n ∧ (61 : UInt8) ∉ showF n ∧ (showF n).length ≤ 4 := by
  have hok : numOK n = true := by simp only [numOK, Bool.and_eq_true, decide_eq_true_eq]; omega
  have e : showF n = Lib.decDigits n.toNat := by rw [showF, if_pos hok, Lib.itoa, if_neg (by omega)]
  have hd := decDigits_dig n.toNat
  rw [List.all_eq_true] at hd
  refine ⟨hok, e, ?_, ?_, ?_⟩
  · rw [e]; intro hm; have := hd _ hm; simp [isDig] at this
  · rw [e]; intro hm; have := hd _ hm; simp [isDig] at this
  · rw [e]; exact dec_len (by omega) (by omega)

theorem rightF_iff {f : Fd} : rightF f = true ↔ 1 ≤ f.1 ∧ f.1 ≤ 9999 ∧ 1 ≤ f.2.length ∧ f.2.length ≤ 256 ∧ (1 : UInt8) ∉ f.2 := by
  simp only [rightF, Bool.and_eq_true, decide_eq_true_eq, and_assoc]

theorem read_enc {f : Fd} (h : rightF f = true) : readF (showF f.1 ++ 61 :: f.2) = some f := by
  have h' := rightF_iff.1 h
  obtain ⟨hok, _, _, h61, _⟩ := show_bytes h'.1 h'.2.1
  unfold readF
  rw [cutB_at _ h61]
  simp only [parse_show hok]
  rw [if_pos (by simp [h'.1, h'.2.1, h])]
theorem read_inv {t : Bs} {f : Fd} (h : readF t = some f) : rightF f = true ∧ t = showF f.1 ++ 61 :: f.2 := by
  unfold readF at h
  split at h
  · simp at h
  · rename_i a v hc
    split at h
    · rename_i hh
      simp only [Option.some.injEq] at h
      subst h
      obtain ⟨e, _⟩ := cutB_some.1 hc
      have : parseF a = ((parseF a).1, 0) := by rw [← hh.1]
      obtain ⟨_, h2⟩ := show_parse this
      refine ⟨hh.2.2.2, ?_⟩
      simp only [h2]; exact e
    · simp at h
theorem enc_no1 {f : Fd} (h : rightF f = true) : (1 : UInt8) ∉ showF f.1 ++ 61 :: f.2 := by
  have h' := rightF_iff.1 h
  obtain ⟨_, _, h1, _, _⟩ := show_bytes h'.1 h'.2.1
  simp only [List.mem_append, List.mem_cons, not_or]
  exact ⟨h1, by decide, h'.2.2.2.2⟩
theorem encF_eq (f : Fd) (r : Bs) : encF f ++ r = (showF f.1 ++ 61 :: f.2) ++ 1 :: r := by simp [encF]

theorem parse_enc : ∀ (l : List Fd) (acc : List Fd) (r : Bs), l.all rightF = true → acc.length + l.length ≤ 100 → parseGo acc (encL l ++ r) = parseGo (acc ++ l) r
  | [], acc, r, _, _ => by simp [encL]
  | f :: l, acc, r, h, hl => by
    simp only [List.all_cons, Bool.and_eq_true] at h
    simp only [List.length_cons] at hl
    have e : encL (f :: l) ++ r = (showF f.1 ++ 61 :: f.2) ++ 1 :: (encL l ++ r) := by
      show (encF f ++ encL l) ++ r = _
      rw [List.append_assoc, encF_eq]
    rw [e, parseGo_cut (cutB_at _ (enc_no1 h.1)), read_enc h.1]
    simp only
    rw [if_neg (by omega), parse_enc l (acc ++ [f]) r h.2 (by simp; omega)]
    simp
theorem parse_inv : ∀ (n : Nat) (b : Bs) (acc m : List Fd), b.length ≤ n → acc.length ≤ 100 → parseGo acc b = (m, 0) → ∃ l, m = acc ++ l ∧ b = encL l ∧ l.all rightF = true ∧ m.length ≤ 100 := by
  intro n
  induction n with
  | zero =>
    intro b acc m hn ha h
    have : b = [] := List.eq_nil_of_length_eq_zero (by omega)
    subst this
    rw [parseGo_nil] at h
    simp only [Prod.mk.injEq, and_true] at h; subst h
    exact ⟨[], by simp, rfl, rfl, ha⟩
  | succ n ih =>
    intro b acc m hn ha h
    by_cases hb : b = []
    · subst hb
      rw [parseGo_nil] at h
      simp only [Prod.mk.injEq, and_true] at h; subst h
      exact ⟨[], by simp, rfl, rfl, ha⟩
    cases hc : cutB 1 b with
    | none => rw [parseGo_short hb hc] at h; simp at h
    | some p =>
      obtain ⟨t, r⟩ := p
      rw [parseGo_cut hc] at h
      cases hr : readF t with
      | none => rw [hr] at h; simp at h
      | some f =>
        rw [hr] at h
        simp only at h
        split at h
        · simp at h
        · rename_i h100
          have hlt := cutB_len hc
          obtain ⟨l, h1, h2, h3, h4⟩ := ih r (acc ++ [f]) m (by omega) (by simp; omega) h
          obtain ⟨h5, h6⟩ := read_inv hr
          refine ⟨f :: l, by rw [h1]; simp, ?_, by simp [h5, h3], h4⟩
          rw [(cutB_some.1 hc).1, h6, h2]
          show _ = encF f ++ encL l
          rw [encF_eq]
theorem parseGo_err : ∀ (n : Nat) (b : Bs) (acc : List Fd), b.length ≤ n → (parseGo acc b).2 ≠ 0 → (parseGo acc b).1 = [] := by
  intro n
  induction n with
  | zero =>
    intro b acc hn h
    have : b = [] := List.eq_nil_of_length_eq_zero (by omega)
    subst this
    rw [parseGo_nil] at h; simp at h
  | succ n ih =>
    intro b acc hn h
    by_cases hb : b = []
    · subst hb; rw [parseGo_nil] at h; simp at h
    cases hc : cutB 1 b with
    | none => rw [parseGo_short hb hc]
    | some p =>
      obtain ⟨t, r⟩ := p
      rw [parseGo_cut hc] at h ⊢
      cases hr : readF t with
      | none => rfl
      | some f =>
        rw [hr] at h
        simp only at h ⊢
        split
        · rfl
        · rename_i h100
          rw [if_neg h100] at h
          exact ih r _ (by have := cutB_len hc; omega) h

theorem parse_put {a b : List Fd} (ha : a.all rightF = true) (hb : b.all rightF = true) (h : a.length + b.length ≤ 100) (hs : (encL a ++ encL b).length ≤ 65536) : parseL (encL a ++ encL b) = (a ++ b, 0) := by
  rw [parseL, if_neg (by omega), parse_enc a [] _ ha (by simp; omega)]
  have := parse_enc b a [] hb h
  simp only [List.append_nil] at this
  simp only [List.nil_append, this, parseGo_nil]
theorem put_parse {b : Bs} {l : List Fd} (h : parseL b = (l, 0)) : putF l = (b, 0) := by
  unfold parseL at h
  split at h
  · simp at h
  · obtain ⟨m, h1, h2, h3, h4⟩ := parse_inv b.length b [] l (Nat.le_refl _) (by simp) h
    simp only [List.nil_append] at h1; subst h1
    rw [putF, if_neg (by omega), if_pos h3, h2]
theorem parse_err {b : Bs} (h : (parseL b).2 ≠ 0) : (parseL b).1 = [] := by
  unfold parseL at h ⊢
  split
  · rfl
  · rename_i h1; rw [if_neg h1] at h; exact parseGo_err _ b [] (Nat.le_refl _) h

theorem encF_len {f : Fd} (h : rightF f = true) : (encF f).length ≤ 262 := by
  have h' := rightF_iff.1 h
  have := (show_bytes h'.1 h'.2.1).2.2.2.2
  simp only [encF, List.length_append, List.length_cons, List.length_nil]
  omega
theorem encL_len : ∀ {l : List Fd}, l.all rightF = true → (encL l).length ≤ 262 * l.length
  | [], _ => by simp [encL]
  | f :: l, h => by
    simp only [List.all_cons, Bool.and_eq_true] at h
    have := encF_len h.1
    have := encL_len h.2
    simp only [encL, List.length_append, List.length_cons]; omega
theorem encF_count {f : Fd} (h : rightF f = true) : (encF f).count 1 = 1 := by
  have h1 : encF f = (showF f.1 ++ 61 :: f.2) ++ [1] := by simp [encF]
  rw [h1, List.count_append, List.count_eq_zero_of_not_mem (enc_no1 h)]
  rfl

/-- The bytes of fields, cut anywhere: those of the first ones; or some bytes more, no end among them. -/
theorem enc_cut : ∀ (l : List Fd) (at' : Nat), l.all rightF = true → at' ≤ (encL l).length →
    (∃ k, k ≤ l.length ∧ (encL l).take at' = encL (l.take k) ∧ ((encL l).take at').count 1 = k) ∨
    ∃ k t, k ≤ l.length ∧ (encL l).take at' = encL (l.take k) ++ t ∧ t ≠ [] ∧ (1 : UInt8) ∉ t
  | [], at', _, h => by
    left; refine ⟨0, Nat.le_refl _, by simp [encL], by simp [encL]⟩
  | f :: l, at', h, hat => by
    simp only [List.all_cons, Bool.and_eq_true] at h
    have e : encL (f :: l) = encF f ++ encL l := rfl
    rw [e] at hat ⊢
    simp only [List.length_append] at hat
    by_cases h1 : at' < (encF f).length
    · by_cases h0 : at' = 0
      · subst h0; left; exact ⟨0, Nat.zero_le _, by simp [encL], by simp⟩
      right
      refine ⟨0, (encF f).take at', Nat.zero_le _, ?_, ?_, ?_⟩
      · rw [List.take_append_of_le_length (by omega)]; simp [encL]
      · intro e
        have := congrArg List.length e
        rw [List.length_take, List.length_nil] at this; omega
      · have e2 : encF f = (showF f.1 ++ 61 :: f.2) ++ [1] := by simp [encF]
        rw [e2] at h1 ⊢
        simp only [List.length_append, List.length_cons, List.length_nil] at h1
        rw [List.take_append_of_le_length (by simp only [List.length_append, List.length_cons]; omega)]
        exact fun hm => enc_no1 h.1 (List.mem_of_mem_take hm)
    · have e3 : (encF f ++ encL l).take at' = encF f ++ (encL l).take (at' - (encF f).length) := by
        rw [List.take_append, List.take_of_length_le (Nat.le_of_not_lt h1)]
      rcases enc_cut l (at' - (encF f).length) h.2 (by omega) with ⟨k, k1, k2, k3⟩ | ⟨k, t, k1, k2, k3, k4⟩
      · left
        refine ⟨k + 1, by simp; omega, ?_, ?_⟩
        · rw [e3, k2]; rfl
        · rw [e3, List.count_append, encF_count h.1, k3]; omega
      · right
        refine ⟨k + 1, t, by simp; omega, ?_, k3, k4⟩
        rw [e3, k2]
        show _ = (encF f ++ encL (l.take k)) ++ t
        simp
theorem encL_last : ∀ {l : List Fd}, l ≠ [] → ∃ m, encL l = m ++ [1]
  | [f], _ => ⟨showF f.1 ++ 61 :: f.2, by simp [encL, encF]⟩
  | f :: g :: l, _ => by
    obtain ⟨m, hm⟩ := encL_last (l := g :: l) (by simp)
    exact ⟨encF f ++ m, by show encF f ++ encL (g :: l) = _; rw [hm]; simp⟩

def getF (l : List Fd) (tag : Int) : Bs × Bool :=
  match l with
  | [] => ([], false)
  | f :: r => if f.1 = tag then (f.2, true) else getF r tag
def numF (l : List Fd) (tag : Int) : Int × Bool := if (getF l tag).2 = true then (if (parseF (getF l tag).1).2 = 0 then ((parseF (getF l tag).1).1, true) else (0, false)) else (0, false)
end Go.Fld

/- Small plain facts for the walks over fields. -/
set_option linter.unusedVariables false
set_option linter.unusedSimpArgs false
namespace Go.Fld
open Go
theorem u8_eq {b c : UInt8} {n : Int} (h : (b.toNat : Int) = n) (hc : (c.toNat : Int) = n) : b = c := UInt8.toNat_inj.1 (by omega)
theorem u8_ne {b c : UInt8} {n : Int} (h : ¬ (b.toNat : Int) = n) (hc : (c.toNat : Int) = n) : b ≠ c := fun e => h (by rw [e]; exact hc)
theorem mem_at {l : Bs} {i : Nat} {b c : UInt8} {n : Int} (hb : l[i]? = some b) (h : (b.toNat : Int) = n) (hc : (c.toNat : Int) = n) : c ∈ l := by
  rw [← u8_eq h hc]; exact List.mem_of_getElem? hb
theorem take_next {α : Type} {l : List α} {i : Nat} {b : α} (hb : l[i]? = some b) : l.take (i + 1) = l.take i ++ [b] := by
  rw [List.take_add_one, hb]; rfl
theorem nmem_next {l : Bs} {i : Nat} {b c : UInt8} (hb : l[i]? = some b) (h : c ∉ l.take i) (hn : b ≠ c) : c ∉ l.take (i + 1) := by
  rw [take_next hb]; simp only [List.mem_append, List.mem_singleton, not_or]; exact ⟨h, fun e => hn e.symm⟩
theorem right_eq {f : Fld.Fd} {b : Bool} (h : (b = true) ↔ (1 ≤ f.1 ∧ f.1 ≤ 9999 ∧ 1 ≤ f.2.length ∧ f.2.length ≤ 256 ∧ (1 : UInt8) ∉ f.2)) : b = rightF f := Bool.eq_iff_iff.2 (by rw [rightF_iff]; exact h)
def msr (n : Int) : Nat := if n < 0 then 2 * n.natAbs + 1 else 2 * n.toNat
theorem drop_at {α : Type} {l : List α} {i : Nat} {b : α} (hb : l[i]? = some b) : l.drop i = b :: l.drop (i + 1) := by
  have h : i < l.length := by
    rcases Nat.lt_or_ge i l.length with h | h
    · exact h
    · rw [List.getElem?_eq_none h] at hb; simp at hb
  rw [List.drop_eq_getElem_cons h]
  rw [List.getElem?_eq_getElem h] at hb
  simp only [Option.some.injEq] at hb; rw [hb]
theorem get_lt {α : Type} {l : List α} {i : Nat} {b : α} (hb : l[i]? = some b) : i < l.length := by
  rcases Nat.lt_or_ge i l.length with h | h
  · exact h
  · rw [List.getElem?_eq_none h] at hb; simp at hb
end Go.Fld
namespace Go.Fld
open Go
theorem show_len (n : Int) : (showF n).length ≤ 20 := by
  unfold showF
  split
  · rename_i h
    simp only [numOK, Bool.and_eq_true, decide_eq_true_eq] at h
    unfold Lib.itoa
    split
    · have := dec_len (u := n.natAbs) (k := 19) (by omega) (by omega)
      simp; omega
    · have := dec_len (u := n.toNat) (k := 19) (by omega) (by omega)
      omega
  · simp
theorem show_neg {n : Int} (h : numOK n = true) (hn : n < 0) : showF n = 45 :: showF (-n) := by
  have h' := h
  simp only [numOK, Bool.and_eq_true, decide_eq_true_eq] at h'
  have h2 : numOK (-n) = true := by simp only [numOK, Bool.and_eq_true, decide_eq_true_eq]; omega
  rw [showF, showF, if_pos h, if_pos h2, Lib.itoa, Lib.itoa, if_pos hn, if_neg (by omega)]
  congr 2; omega
theorem show_dig {n : Int} (h0 : 0 ≤ n) (h1 : n < 10) : showF n = [UInt8.ofNat (48 + n.toNat)] := by
  have h : numOK n = true := by simp only [numOK, Bool.and_eq_true, decide_eq_true_eq]; omega
  rw [showF, if_pos h, Lib.itoa, if_neg (by omega), Lib.decDigits_one (by omega)]
theorem show_big {n : Int} (h : numOK n = true) (h1 : 10 ≤ n) : showF n = showF (n.tdiv 10) ++ [UInt8.ofNat (48 + (n.tmod 10).toNat)] := by
  have h' := h
  simp only [numOK, Bool.and_eq_true, decide_eq_true_eq] at h'
  rw [Int.tdiv_eq_ediv_of_nonneg (by omega), Int.tmod_eq_emod_of_nonneg (by omega)]
  have h2 : numOK (n / 10) = true := by simp only [numOK, Bool.and_eq_true, decide_eq_true_eq]; omega
  rw [showF, showF, if_pos h, if_pos h2, Lib.itoa, Lib.itoa, if_neg (by omega), if_neg (by omega)]
  rw [Lib.decDigits, dif_neg (by omega)]
  have e1 : n.toNat / 10 = (n / 10).toNat := by omega
  have e2 : n.toNat % 10 = (n % 10).toNat := by omega
  rw [e1, e2]
theorem enc_dig {d : Int} (h0 : 0 ≤ d) (h1 : d < 10) : Utf8.encode (IntKind.i32.wrap (IntKind.i64.wrap (48 + d))) = ⟨[UInt8.ofNat (48 + d.toNat)].toArray⟩ := by
  obtain rfl | rfl | rfl | rfl | rfl | rfl | rfl | rfl | rfl | rfl : d = 0 ∨ d = 1 ∨ d = 2 ∨ d = 3 ∨ d = 4 ∨ d = 5 ∨ d = 6 ∨ d = 7 ∨ d = 8 ∨ d = 9 := by omega
  all_goals decide
theorem numOK_iff {n : Int} : numOK n = true ↔ -4611686018427387904 ≤ n ∧ n ≤ 4611686018427387904 := by
  simp only [numOK, Bool.and_eq_true, decide_eq_true_eq]
end Go.Fld
namespace Go.Fld
theorem msr_neg {n : Int} (h : numOK n = true) (hn : n < 0) : msr (IntKind.i64.wrap (0 - n)) < msr n := by
  have hh := numOK_iff.1 h
  have e : IntKind.i64.wrap (0 - n) = 0 - n := by rw [IntKind.wrap_i64]; omega
  rw [e]; unfold msr; rw [if_neg (by omega), if_pos hn]; omega
theorem wdiv {n : Int} (h : numOK n = true) : IntKind.i64.wrap (n.tdiv 10) = n.tdiv 10 := by
  have hh := numOK_iff.1 h
  rw [IntKind.wrap_i64]
  rcases Int.le_total 0 n with h0 | h0
  · rw [Int.tdiv_eq_ediv_of_nonneg h0]; omega
  · have : n.tdiv 10 = -((-n) / 10) := by rw [← Int.neg_neg n, Int.neg_tdiv, Int.tdiv_eq_ediv_of_nonneg (by omega), Int.neg_neg]
    rw [this]; omega
theorem msr_div {n : Int} (h : numOK n = true) (hn : ¬ n < 10) : msr (IntKind.i64.wrap (n.tdiv 10)) < msr n := by
  rw [wdiv h, Int.tdiv_eq_ediv_of_nonneg (by omega)]; unfold msr; rw [if_neg (by omega), if_neg (by omega)]; omega
end Go.Fld
namespace Go.Fld
open Go
theorem signed_eq (l : Bs) : Lib.trimPrefix l [45] = (signed l).1 ∧ Lib.hasPrefix l [45] = (signed l).2 := by
  unfold signed
  split
  · constructor <;> simp [Lib.trimPrefix, Lib.hasPrefix]
  · rename_i h
    have : Lib.hasPrefix l [45] = false := by
      cases l with
      | nil => rfl
      | cons c r =>
        simp only [Lib.hasPrefix, List.isPrefixOf, Bool.and_true]
        rw [beq_eq_false_iff_ne]
        intro e; exact h r (by rw [← e])
    rw [Lib.trimPrefix, this]; exact ⟨rfl, rfl⟩
theorem parse_long {l : Bs} (h : 20 < l.length) : parseF l = (0, 4) := by unfold parseF; rw [if_pos h]
theorem parse_form {l : Bs} (h : ¬ 20 < l.length) (h1 : (signed l).1 = [] ∨ ((signed l).1.head? = some 48 ∧ 1 < l.length)) : parseF l = (0, 3) := by unfold parseF; rw [if_neg h, if_pos h1]
theorem parse_dig {l : Bs} (h : ¬ 20 < l.length) (h2 : (signed l).1.all isDig = false) : parseF l = (0, 3) := by
  unfold parseF; rw [if_neg h]; split
  · rfl
  · rfl
theorem parse_over {l : Bs} (h : ¬ 20 < l.length) (h1 : ¬ ((signed l).1 = [] ∨ ((signed l).1.head? = some 48 ∧ 1 < l.length))) (h2 : (signed l).1.all isDig = true) (h3 : 4611686018427387904 < decVal 0 (signed l).1) : parseF l = (0, 9) := by
  unfold parseF; rw [if_neg h, if_neg h1, if_neg (by rw [h2]; simp), if_pos h3]
theorem parse_ok {l : Bs} (h : ¬ 20 < l.length) (h1 : ¬ ((signed l).1 = [] ∨ ((signed l).1.head? = some 48 ∧ 1 < l.length))) (h2 : (signed l).1.all isDig = true) (h3 : ¬ 4611686018427387904 < decVal 0 (signed l).1) :
    parseF l = (if (signed l).2 = true then -((decVal 0 (signed l).1 : Nat) : Int) else ((decVal 0 (signed l).1 : Nat) : Int), 0) := by
  unfold parseF; rw [if_neg h, if_neg h1, if_neg (by rw [h2]; simp), if_neg h3]
theorem all_next {l : Bs} {i : Nat} {b : UInt8} (hb : l[i]? = some b) (h : (l.take i).all isDig = true) (h1 : ¬ (b.toNat : Int) < 48) (h2 : ¬ 57 < (b.toNat : Int)) : (l.take (i + 1)).all isDig = true := by
  rw [take_next hb, List.all_append, h]
  simp only [List.all_cons, List.all_nil, Bool.and_true, Bool.true_and, isDig, Bool.and_eq_true, decide_eq_true_eq]; omega
theorem all_not {l : Bs} {i : Nat} {b : UInt8} (hb : l[i]? = some b) (h : (b.toNat : Int) < 48 ∨ 57 < (b.toNat : Int)) : l.all isDig = false := by
  rw [Bool.eq_false_iff]; intro e
  rw [List.all_eq_true] at e
  have := e b (List.mem_of_getElem? hb)
  simp only [isDig, Bool.and_eq_true, decide_eq_true_eq] at this; omega
theorem head_at {l : Bs} {b : UInt8} (hb : l[0]? = some b) : l.head? = some b := by rw [List.head?_eq_getElem?]; exact hb
end Go.Fld
namespace Go.Fld
theorem signed_len (l : Bs) : (signed l).1.length ≤ l.length := by
  unfold signed; split <;> simp
end Go.Fld
namespace Go.Fld
theorem all_done {l : Bs} {i : Nat} (h1 : i ≤ l.length) (c : ¬ (i : Int) < (l.length : Int)) (h2 : (l.take i).all isDig = true) : l.all isDig = true := by
  rw [List.take_of_length_le (by omega)] at h2; exact h2
theorem signed_one {l : Bs} (h : (signed l).2 = true) : l.length = (signed l).1.length + 1 := by
  unfold signed at h ⊢; split at h
  · rfl
  · simp at h
theorem signed_no {l : Bs} (h : (signed l).2 = false) : (signed l).1 = l := by
  unfold signed at h ⊢; split at h
  · simp at h
  · rfl
theorem form_yes1 {l : Bs} {b : UInt8} (hb : (signed l).1[0]? = some b) (h : (b.toNat : Int) = 48) (h2 : (signed l).2 = true) : (signed l).1 = [] ∨ ((signed l).1.head? = some 48 ∧ 1 < l.length) := by
  right
  have e : b = 48 := u8_eq h rfl
  refine ⟨by rw [head_at hb, e], ?_⟩
  have := signed_one h2
  have := get_lt hb
  omega
theorem form_yes2 {l : Bs} {b : UInt8} (hb : (signed l).1[0]? = some b) (h : (b.toNat : Int) = 48) (h2 : (1 : Int) < ((signed l).1.length : Int)) : (signed l).1 = [] ∨ ((signed l).1.head? = some 48 ∧ 1 < l.length) := by
  right
  have e : b = 48 := u8_eq h rfl
  refine ⟨by rw [head_at hb, e], ?_⟩
  have := signed_len l
  omega
theorem form_no1 {l : Bs} {b : UInt8} (hb : (signed l).1[0]? = some b) (h : ¬ (b.toNat : Int) = 48) : ¬ ((signed l).1 = [] ∨ ((signed l).1.head? = some 48 ∧ 1 < l.length)) := by
  rintro (e | ⟨e, _⟩)
  · rw [e] at hb; simp at hb
  · rw [head_at hb] at e; simp only [Option.some.injEq] at e; subst e; exact h rfl
theorem form_no2 {l : Bs} (ha : ¬ (signed l).1 = []) (h : (signed l).2 = false) (h1 : ¬ (1 : Int) < ((signed l).1.length : Int)) : ¬ ((signed l).1 = [] ∨ ((signed l).1.head? = some 48 ∧ 1 < l.length)) := by
  rintro (e | ⟨_, e⟩)
  · exact ha e
  · rw [signed_no h] at h1; omega
end Go.Fld
namespace Go.Fld
open Go
/-- How many bytes the sign takes. -/
def sg (s : Bs) : Nat := if (signed s).2 = true then 1 else 0
theorem sg_drop (s : Bs) : s.drop (sg s) = (signed s).1 ∧ sg s + (signed s).1.length = s.length := by
  unfold sg signed; split <;> simp <;> omega
theorem sg_one {s : Bs} {b : UInt8} (hb : s[0]? = some b) (h : (b.toNat : Int) = 45) : sg s = 1 := by
  have e : b = 45 := u8_eq h rfl
  subst e
  cases s with
  | nil => simp at hb
  | cons c r => simp at hb; subst hb; rfl
theorem sg_zero1 {s : Bs} (h : ¬ (0 : Int) < (s.length : Int)) : sg s = 0 := by
  have : s = [] := List.eq_nil_of_length_eq_zero (by omega)
  subst this; rfl
theorem sg_zero2 {s : Bs} {b : UInt8} (hb : s[0]? = some b) (h : ¬ (b.toNat : Int) = 45) : sg s = 0 := by
  unfold sg
  rw [if_neg]
  intro e
  cases s with
  | nil => simp at hb
  | cons c r =>
    simp at hb; subst hb
    unfold signed at e
    split at e
    · rename_i heq; simp at heq; exact h (by rw [heq.1]; rfl)
    · simp at e
theorem sg_get {s : Bs} {j : Nat} : s[sg s + j]? = (signed s).1[j]? := by
  rw [← (sg_drop s).1, List.getElem?_drop]
end Go.Fld
namespace Go.Fld
open Go
theorem r1_no {s : Bs} {i0 : Nat} {b : UInt8} (hJ : i0 = sg s) (hb : s[i0]? = some b) (hc : ¬ (b.toNat : Int) = 48 ∨ ¬ (1 : Int) < (s.length : Int)) : ¬ ((signed s).1 = [] ∨ ((signed s).1.head? = some 48 ∧ 1 < s.length)) := by
  have hlt := get_lt hb
  have hsg := (sg_drop s).2
  have hb' : (signed s).1[0]? = some b := by rw [← sg_get, Nat.add_zero, ← hJ]; exact hb
  rcases hc with hc | hc
  · exact form_no1 hb' hc
  · rintro (e | ⟨_, e⟩)
    · rw [e] at hb'; simp at hb'
    · omega
theorem r1_yes1 {s : Bs} {i0 : Nat} (hJ : i0 = sg s) (h : (i0 : Int) = (s.length : Int)) : (signed s).1 = [] ∨ ((signed s).1.head? = some 48 ∧ 1 < s.length) := by
  left
  have hsg := (sg_drop s).2
  exact List.eq_nil_of_length_eq_zero (by omega)
theorem r1_yes2 {s : Bs} {i0 : Nat} {b : UInt8} (hJ : i0 = sg s) (hb : s[i0]? = some b) (h : (b.toNat : Int) = 48) (h2 : (1 : Int) < (s.length : Int)) : (signed s).1 = [] ∨ ((signed s).1.head? = some 48 ∧ 1 < s.length) := by
  right
  have hb' : (signed s).1[0]? = some b := by rw [← sg_get, Nat.add_zero, ← hJ]; exact hb
  have e : b = 48 := u8_eq h rfl
  exact ⟨by rw [head_at hb', e], by omega⟩
theorem val_next {l : Bs} {j : Nat} {b : UInt8} (hb : l[j]? = some b) : decVal 0 (l.take (j + 1)) = decVal 0 (l.take j) * 10 + (b.toNat - 48) := by
  rw [take_next hb, decVal_append, decVal_cons, decVal_nil]
theorem r1_get {s : Bs} {i0 j : Nat} {b : UInt8} (hJ : i0 = sg s) (hb : s[i0 + j]? = some b) : (signed s).1[j]? = some b := by rw [← sg_get, ← hJ]; exact hb
theorem r1_over1 {l : Bs} {j : Nat} {b : UInt8} (hb : l[j]? = some b) (h : 4611686018427387904 < decVal 0 (l.take j)) : 4611686018427387904 < decVal 0 (l.take (j + 1)) := by
  rw [val_next hb]; omega
theorem r1_over2 {l : Bs} {j n : Nat} {b : UInt8} (hb : l[j]? = some b) (hn : n = decVal 0 (l.take j)) (h : (461168601842738790 : Int) < (n : Int)) : 4611686018427387904 < decVal 0 (l.take (j + 1)) := by
  rw [val_next hb]; omega
end Go.Fld
namespace Go.Fld
open Go
theorem wrap_u64' (n : Int) : IntKind.u64.wrap n = n % 18446744073709551616 := by simp [IntKind.wrap, IntKind.bits, IntKind.signed]
theorem r1_add {n : Nat} {b : UInt8} (h1 : ¬ (b.toNat : Int) < 48) (h2 : ¬ (57 : Int) < (b.toNat : Int)) (h : ¬ (461168601842738790 : Int) < (n : Int)) :
    IntKind.u64.wrap (IntKind.u64.wrap ((n : Int) * 10) + IntKind.u64.wrap (IntKind.u8.wrap ((b.toNat : Int) - 48))) = ((n * 10 + (b.toNat - 48) : Nat) : Int) := by
  rw [wrap_u64', wrap_u64', wrap_u64', IntKind.wrap_u8]; omega
end Go.Fld
namespace Go.Fld
open Go
theorem r1_end {s : Bs} {i0 j : Nat} (hJ : i0 = sg s) (h1 : j ≤ (signed s).1.length) (c : ¬ ((i0 + j : Nat) : Int) < (s.length : Int)) : (signed s).1.take j = (signed s).1 := by
  have hsg := (sg_drop s).2
  exact List.take_of_length_le (by omega)
theorem sg_yes {s : Bs} {i0 : Nat} (hJ : i0 = sg s) (h : (i0 : Int) = 1) : (signed s).2 = true := by
  unfold sg at hJ; split at hJ
  · assumption
  · omega
theorem sg_no {s : Bs} {i0 : Nat} (hJ : i0 = sg s) (h : ¬ (i0 : Int) = 1) : (signed s).2 = false := by
  unfold sg at hJ; split at hJ
  · omega
  · rename_i h'; simpa using h'
end Go.Fld

/- How a field is read digit by digit. -/
set_option linter.unusedVariables false
set_option linter.unusedSimpArgs false
namespace Go.Fld
open Go

theorem parse_digits {a : Bs} (hl : a.length ≤ 4) (hd : a.all isDig = true) (hn : a ≠ []) (h0 : a.head? ≠ some 48) : parseF a = (((decVal 0 a : Nat) : Int), 0) ∧ 1 ≤ decVal 0 a ∧ decVal 0 a ≤ 9999 := by
  have hs : signed a = (a, false) := by
    unfold signed
    split
    · rename_i r; simp [isDig] at hd
    · rfl
  have hlt := decVal_lt a hd
  have hle : 10 ^ a.length ≤ 10 ^ 4 := Nat.pow_le_pow_right (by decide) hl
  have h1 : 1 ≤ decVal 0 a := by
    cases a with
    | nil => exact absurd rfl hn
    | cons c r =>
      simp only [List.all_cons, Bool.and_eq_true] at hd
      have := decVal_lead (l := r) hd.1 (fun e => h0 (by rw [e]; rfl))
      exact Nat.le_trans (Nat.one_le_pow _ _ (by decide)) this
  refine ⟨?_, h1, by omega⟩
  have := parse_ok (l := a) (by omega) (by rw [hs]; rintro (e | ⟨e, _⟩); exact hn e; exact h0 e) (by rw [hs]; exact hd) (by rw [hs]; simp only; omega)
  rw [this, hs]
  rfl

theorem parse_small {a : Bs} {n : Int} (h : parseF a = (n, 0)) (h1 : 1 ≤ n) (h2 : n ≤ 9999) : a.length ≤ 4 ∧ a.all isDig = true ∧ a ≠ [] ∧ a.head? ≠ some 48 := by
  obtain ⟨_, e⟩ := show_parse h
  obtain ⟨_, e2, _, _, h4⟩ := show_bytes h1 h2
  rw [← e]
  refine ⟨h4, ?_, ?_, ?_⟩ <;> rw [e2]
  · exact decDigits_dig _
  · exact decDigits_ne _
  · exact decDigits_head _ (by omega)

/-- Where the digits at the beginning end. -/
structure Digs (t : Bs) (k : Nat) : Prop where
  le : k ≤ t.length
  four : k ≤ 4
  dig : (t.take k).all isDig = true
  stop : k = 4 ∨ k = t.length ∨ ∃ c, t[k]? = some c ∧ isDig c = false

theorem Digs.of_cut {t a v : Bs} {k : Nat} (h : Digs t k) (e : t = a ++ 61 :: v) (hl : a.length ≤ 4) (hd : a.all isDig = true) : k = a.length := by
  subst e
  rcases Nat.lt_trichotomy k a.length with hlt | heq | hgt
  · exfalso
    rcases h.stop with h' | h' | ⟨c, h1, h2⟩
    · omega
    · simp at h'; omega
    · rw [List.getElem?_append_left hlt] at h1
      have := List.all_eq_true.1 hd c (List.mem_of_getElem? h1)
      rw [h2] at this; simp at this
  · exact heq
  · exfalso
    have h1 : (61 : UInt8) ∈ (a ++ 61 :: v).take k := by
      rw [List.take_append, List.mem_append]
      right
      obtain ⟨m, hm⟩ : ∃ m, k - a.length = m + 1 := ⟨k - a.length - 1, by omega⟩
      rw [hm]; simp
    have := List.all_eq_true.1 h.dig _ h1
    simp [isDig] at this

theorem read_none {t : Bs} {k : Nat} (h : Digs t k) (hh : k = 0 ∨ t[0]? = some 48 ∨ k = t.length ∨ ∃ c, t[k]? = some c ∧ c ≠ 61) : readF t = none := by
  cases hr : readF t with
  | none => rfl
  | some f =>
    exfalso
    unfold readF at hr
    split at hr
    · simp at hr
    · rename_i a v hc
      split at hr
      · rename_i hp
        obtain ⟨e, _⟩ := cutB_some.1 hc
        obtain ⟨h1, h2, h3, h4⟩ := parse_small (a := a) (n := (parseF a).1) (by rw [← hp.1]) hp.2.1 hp.2.2.1
        have hk := h.of_cut e h1 h2
        have hpos : 0 < a.length := List.length_pos_iff.2 h3
        rcases hh with hh | hh | hh | ⟨c, hc1, hc2⟩
        · omega
        · rw [e, List.getElem?_append_left hpos, ← List.head?_eq_getElem?] at hh; exact h4 hh
        · rw [e] at hh; simp at hh; omega
        · rw [e, hk, List.getElem?_append_right (Nat.le_refl _)] at hc1
          simp at hc1; exact hc2 hc1.symm
      · simp at hr
theorem read_some {t : Bs} {k : Nat} (h : Digs t k) (h0 : k ≠ 0) (h1 : t[0]? ≠ some 48) (h2 : t[k]? = some 61) :
    readF t = if rightF ((decVal 0 (t.take k) : Nat), t.drop (k + 1)) = true then some (((decVal 0 (t.take k) : Nat) : Int), t.drop (k + 1)) else none := by
  have hlt := get_lt h2
  have hn61 : (61 : UInt8) ∉ t.take k := fun hm => by
    have := List.all_eq_true.1 h.dig _ hm
    simp [isDig] at this
  have e : t = t.take k ++ 61 :: t.drop (k + 1) := by
    rw [← drop_at h2, List.take_append_drop]
  have hne : t.take k ≠ [] := fun e => by
    have := congrArg List.length e
    rw [List.length_take, List.length_nil] at this; omega
  have hh : (t.take k).head? ≠ some 48 := by
    rw [List.head?_eq_getElem?, List.getElem?_take]
    rw [if_pos (by omega)]; exact h1
  obtain ⟨hp, hp1, hp2⟩ := parse_digits (a := t.take k) (by rw [List.length_take]; have := h.four; omega) h.dig hne hh
  have hc : cutB 61 t = some (t.take k, t.drop (k + 1)) := cutB_some.2 ⟨e, hn61⟩
  unfold readF
  rw [hc]
  simp only [hp]
  by_cases hr : rightF ((decVal 0 (t.take k) : Nat), t.drop (k + 1)) = true
  · rw [if_pos ⟨trivial, by omega, by omega, hr⟩, if_pos hr]
  · rw [if_neg (fun hx => hr hx.2.2.2), if_neg hr]
end Go.Fld
namespace Go.Fld
theorem index_neg {l : Bs} : (Lib.indexByte l 1 < 0) = ((1 : UInt8) ∉ l) := by
  rw [index_cut, eq_iff_iff, ← cutB_none]
  cases h : cutB 1 l with
  | none => simp
  | some p => simp
theorem enc_take {l : List Fld.Fd} {i : Nat} (h : (l.take i).all rightF = true) : (encL (l.take i)).length ≤ 262 * l.length := by
  have := encL_len h
  have h2 : (l.take i).length ≤ l.length := by rw [List.length_take]; omega
  have := Nat.mul_le_mul_left 262 h2
  omega
theorem put_long {l : List Fld.Fd} (h : 100 < l.length) : putF l = ([], 4) := by unfold putF; rw [if_pos h]
theorem put_bad {l : List Fld.Fd} {i : Nat} {f : Fld.Fd} (h : ¬ 100 < l.length) (hb : l[i]? = some f) (hf : rightF f = false) : putF l = ([], 1) := by
  unfold putF; rw [if_neg h, if_neg]
  intro e; rw [List.all_eq_true] at e
  rw [e f (List.mem_of_getElem? hb)] at hf; simp at hf
theorem put_ok {l : List Fld.Fd} {i : Nat} (h : ¬ 100 < l.length) (hi : ¬ (i : Int) < (l.length : Int)) (h2 : (l.take i).all rightF = true) : putF l = (encL (l.take i), 0) := by
  rw [List.take_of_length_le (by omega)] at h2 ⊢
  unfold putF; rw [if_neg h, if_pos h2]
theorem encL_app : ∀ (l m : List Fld.Fd), encL (l ++ m) = encL l ++ encL m
  | [], _ => rfl
  | f :: l, m => by show encF f ++ encL (l ++ m) = (encF f ++ encL l) ++ encL m; rw [encL_app l m, List.append_assoc]
theorem enc_next {l : List Fld.Fd} {i : Nat} {f : Fld.Fd} (hb : l[i]? = some f) : encL (l.take (i + 1)) = encL (l.take i) ++ showF f.1 ++ [61] ++ f.2 ++ [1] := by
  rw [take_next hb, encL_app]; simp [encL, encF]
end Go.Fld
namespace Go.Fld
open Go
def readR (s : Bs) : Fld.Fd × Bool :=
  match cutB 61 s with
  | none => ((0, []), false)
  | some (a, v) => if (parseF a).2 ≠ 0 ∨ (parseF a).1 < 1 ∨ 9999 < (parseF a).1 then ((0, []), false) else (((parseF a).1, v), rightF ((parseF a).1, v))
theorem readR_none {s : Bs} (h : cutB 61 s = none) : readR s = ((0, []), false) := by unfold readR; rw [h]
theorem readR_bad {s a v : Bs} (h : cutB 61 s = some (a, v)) (h1 : (parseF a).2 ≠ 0 ∨ (parseF a).1 < 1 ∨ 9999 < (parseF a).1) : readR s = ((0, []), false) := by unfold readR; rw [h]; simp only; rw [if_pos h1]
theorem readR_at {s a v : Bs} (h : cutB 61 s = some (a, v)) (h1 : ¬ ((parseF a).2 ≠ 0 ∨ (parseF a).1 < 1 ∨ 9999 < (parseF a).1)) : readR s = (((parseF a).1, v), rightF ((parseF a).1, v)) := by unfold readR; rw [h]; simp only; rw [if_neg h1]
theorem readF_R (s : Bs) : readF s = if (readR s).2 = true then some (readR s).1 else none := by
  unfold readF
  cases h : cutB 61 s with
  | none => rw [readR_none h]; rfl
  | some p =>
    obtain ⟨a, v⟩ := p
    simp only
    by_cases h1 : (parseF a).2 ≠ 0 ∨ (parseF a).1 < 1 ∨ 9999 < (parseF a).1
    · rw [readR_bad h h1, if_neg]
      · rfl
      · rintro ⟨e1, e2, e3, _⟩; omega
    · rw [readR_at h h1]
      simp only
      have h2 : (parseF a).2 = 0 := by omega
      by_cases h3 : rightF ((parseF a).1, v) = true
      · rw [if_pos ⟨h2, by omega, by omega, h3⟩, if_pos h3]
      · rw [if_neg (fun hx => h3 hx.2.2.2), if_neg h3]
theorem readF_yes {s : Bs} (h : (readR s).2 = true) : readF s = some (readR s).1 := by rw [readF_R, if_pos h]
theorem readF_no {s : Bs} (h : (readR s).2 = false) : readF s = none := by rw [readF_R, if_neg (by rw [h]; simp)]

theorem cut_take {c : UInt8} {l a v : Bs} (h : cutB c l = some (a, v)) : l.take a.length = a ∧ l.drop (a.length + 1) = v ∧ a.length + 1 + v.length = l.length := by
  obtain ⟨e, _⟩ := cutB_some.1 h
  subst e
  refine ⟨List.take_left, ?_, by simp; omega⟩
  rw [← List.drop_drop, List.drop_left]; rfl
theorem pl_long {b : Bs} (h : 65536 < b.length) : parseL b = ([], 4) := by unfold parseL; rw [if_pos h]
theorem pl_short {b rest : Bs} {acc : List Fld.Fd} (h : ¬ 65536 < b.length) (hI : parseGo [] b = parseGo acc rest) (hne : 0 < rest.length) (hc : cutB 1 rest = none) : parseL b = ([], 2) := by
  unfold parseL; rw [if_neg h, hI, parseGo_short (List.length_pos_iff.1 hne) hc]
theorem pl_form {b rest a v : Bs} {acc : List Fld.Fd} (h : ¬ 65536 < b.length) (hI : parseGo [] b = parseGo acc rest) (hc : cutB 1 rest = some (a, v)) (hr : readF a = none) : parseL b = ([], 3) := by
  unfold parseL; rw [if_neg h, hI, parseGo_cut hc, hr]
theorem pl_many {b rest a v : Bs} {acc : List Fld.Fd} {f : Fld.Fd} (h : ¬ 65536 < b.length) (hI : parseGo [] b = parseGo acc rest) (hc : cutB 1 rest = some (a, v)) (hr : readF a = some f) (h100 : acc.length = 100) : parseL b = ([], 4) := by
  unfold parseL; rw [if_neg h, hI, parseGo_cut hc, hr]; simp only; rw [if_pos h100]
theorem pl_step {b rest a v : Bs} {acc : List Fld.Fd} {f : Fld.Fd} (hI : parseGo [] b = parseGo acc rest) (hc : cutB 1 rest = some (a, v)) (hr : readF a = some f) (h100 : ¬ acc.length = 100) : parseGo [] b = parseGo (acc ++ [f]) v := by
  rw [hI, parseGo_cut hc, hr]; simp only; rw [if_neg h100]
theorem pl_end {b rest : Bs} {acc : List Fld.Fd} (h : ¬ 65536 < b.length) (hI : parseGo [] b = parseGo acc rest) (he : ¬ 0 < rest.length) : parseL b = (acc, 0) := by
  have : rest = [] := List.eq_nil_of_length_eq_zero (by omega)
  subst this
  unfold parseL; rw [if_neg h, hI, parseGo_nil]
theorem get_end {l : List Fld.Fd} {tag : Int} {i : Nat} (h : getF l tag = getF (l.drop i) tag) (he : ¬ (i : Int) < (l.length : Int)) : getF l tag = ([], false) := by
  rw [h, List.drop_eq_nil_of_le (by omega)]; rfl
theorem get_hit {l : List Fld.Fd} {tag : Int} {i : Nat} {f : Fld.Fd} (h : getF l tag = getF (l.drop i) tag) (hb : l[i]? = some f) (he : f.1 = tag) : getF l tag = (f.2, true) := by
  rw [h, drop_at hb, getF, if_pos he]
theorem get_miss {l : List Fld.Fd} {tag : Int} {i : Nat} {f : Fld.Fd} (h : getF l tag = getF (l.drop i) tag) (hb : l[i]? = some f) (he : ¬ f.1 = tag) : getF l tag = getF (l.drop (i + 1)) tag := by
  rw [h, drop_at hb, getF, if_neg he]
end Go.Fld
namespace Go.Fld
open Go
theorem tk_get {b : Bs} {p j k : Nat} (hk : k < j) : ((b.drop p).take j)[k]? = b[p + k]? := by
  rw [List.getElem?_take, if_pos hk, List.getElem?_drop]
theorem tk_len {b : Bs} {p j : Nat} (h : p + j ≤ b.length) : ((b.drop p).take j).length = j := by
  rw [List.length_take, List.length_drop]; omega
theorem p2_cut {b : Bs} {p j : Nat} (h2 : (1 : UInt8) ∉ (b.drop p).take j) (h3 : b[p + j]? = some 1) : cutB 1 (b.drop p) = some ((b.drop p).take j, b.drop (p + j + 1)) := by
  have e : (b.drop p).drop j = 1 :: b.drop (p + j + 1) := by rw [List.drop_drop]; exact drop_at h3
  rw [cutB_some]
  exact ⟨by rw [← e, List.take_append_drop], h2⟩
theorem p2_none {b : Bs} {p j : Nat} (h2 : (1 : UInt8) ∉ (b.drop p).take j) (h3 : p + j = b.length) : cutB 1 (b.drop p) = none := by
  rw [cutB_none]
  rw [List.take_of_length_le (by rw [List.length_drop]; omega)] at h2; exact h2
theorem p2_next {b : Bs} {p j : Nat} {c : UInt8} (h : (1 : UInt8) ∉ (b.drop p).take j) (hb : b[p + j]? = some c) (hc : ¬ (c.toNat : Int) = 1) : (1 : UInt8) ∉ (b.drop p).take (j + 1) :=
  nmem_next (by rw [List.getElem?_drop]; exact hb) h (u8_ne hc rfl)
theorem p2_val {b : Bs} {p j k : Nat} {c : UInt8} (hk : k < j) (h4 : k < 4) (hb : b[p + k]? = some c) (hd : (((b.drop p).take j).take k).all isDig = true) (h1 : (48 : Int) ≤ (c.toNat : Int)) (h2 : (c.toNat : Int) ≤ 57) :
    IntKind.i64.wrap (IntKind.i64.wrap (((decVal 0 (((b.drop p).take j).take k) : Nat) : Int) * 10) + IntKind.i64.wrap (IntKind.u8.wrap ((c.toNat : Int) - 48))) = ((decVal 0 (((b.drop p).take j).take (k + 1)) : Nat) : Int) ∧ (((b.drop p).take j).take (k + 1)).all isDig = true := by
  have hg : ((b.drop p).take j)[k]? = some c := by rw [tk_get hk]; exact hb
  refine ⟨?_, all_next hg hd (by omega) (by omega)⟩
  have hlt := decVal_lt _ hd
  have hle : 10 ^ (((b.drop p).take j).take k).length ≤ 10 ^ 4 := Nat.pow_le_pow_right (by decide) (by rw [List.length_take]; omega)
  rw [val_next hg]
  generalize decVal 0 (((b.drop p).take j).take k) = q at *
  rw [IntKind.wrap_u8, IntKind.wrap_i64, IntKind.wrap_i64, IntKind.wrap_i64]
  omega
theorem p2_stop1 {b : Bs} {p j k : Nat} (hj : p + j ≤ b.length) (hk : k ≤ j) (h4 : k ≤ 4) (hd : (((b.drop p).take j).take k).all isDig = true) (h : ¬ k < j) : Digs ((b.drop p).take j) k :=
  ⟨by rw [tk_len hj]; exact hk, h4, hd, .inr (.inl (by rw [tk_len hj]; omega))⟩
theorem p2_stop2 {b : Bs} {p j k : Nat} (hj : p + j ≤ b.length) (hk : k ≤ j) (hd : (((b.drop p).take j).take k).all isDig = true) (h : k = 4) : Digs ((b.drop p).take j) k :=
  ⟨by rw [tk_len hj]; exact hk, by omega, hd, .inl h⟩
theorem p2_stop3 {b : Bs} {p j k : Nat} {c : UInt8} (hj : p + j ≤ b.length) (hk : k < j) (h4 : k ≤ 4) (hd : (((b.drop p).take j).take k).all isDig = true) (hb : b[p + k]? = some c) (h : ¬ (48 : Int) ≤ (c.toNat : Int) ∨ ¬ (c.toNat : Int) ≤ 57) : Digs ((b.drop p).take j) k :=
  ⟨by rw [tk_len hj]; omega, h4, hd, .inr (.inr ⟨c, by rw [tk_get hk]; exact hb, by
    rw [Bool.eq_false_iff]; simp only [isDig, ne_eq, Bool.and_eq_true, decide_eq_true_eq]; omega⟩)⟩
theorem p2_val_piece {b : Bs} {p j k : Nat} : (b.take (p + j)).drop (p + k + 1) = ((b.drop p).take j).drop (k + 1) := by
  rw [List.drop_take, List.drop_take, List.drop_drop]
  congr 1 <;> omega
end Go.Fld
namespace Go.Fld
open Go
theorem p2_hit {bs : Bs} {p j : Nat} (g3 : p + j = bs.length ∨ bs[p + j]? = some 1) (h : ¬ ((p + j : Nat) : Int) = (bs.length : Int)) : bs[p + j]? = some 1 := by
  rcases g3 with g | g
  · omega
  · exact g
theorem r2_bad {bs : Bs} {p j k : Nat} (g1 : p + j ≤ bs.length) (hD : Digs ((bs.drop p).take j) k)
    (hh : ((p + k : Nat) : Int) = (p : Int) ∨ (∃ b, bs[p]? = some b ∧ (b.toNat : Int) = 48 ∧ ¬ ((p + k : Nat) : Int) = (p : Int)) ∨ ((p + k : Nat) : Int) = ((p + j : Nat) : Int) ∨ ∃ b, bs[p + k]? = some b ∧ ¬ ((p + k : Nat) : Int) = ((p + j : Nat) : Int) ∧ ¬ (b.toNat : Int) = 61) :
    readF ((bs.drop p).take j) = none := by
  have hkj := hD.le
  rw [tk_len g1] at hkj
  apply read_none hD
  rcases hh with h | ⟨b, h1, h2, h3⟩ | h | ⟨b, h1, h2, h3⟩
  · left; omega
  · right; left
    have e : b = 48 := u8_eq h2 rfl
    rw [tk_get (by omega), Nat.add_zero, h1, e]
  · right; right; left; rw [tk_len g1]; omega
  · right; right; right
    exact ⟨b, by rw [tk_get (by omega)]; exact h1, u8_ne h3 rfl⟩
theorem r2_good {bs : Bs} {p j k : Nat} {b1 b : UInt8} (g1 : p + j ≤ bs.length) (hD : Digs ((bs.drop p).take j) k) (h0 : ¬ ((p + k : Nat) : Int) = (p : Int)) (hb1 : bs[p]? = some b1) (h1 : ¬ (b1.toNat : Int) = 48)
    (h2 : ¬ ((p + k : Nat) : Int) = ((p + j : Nat) : Int)) (hb : bs[p + k]? = some b) (h3 : (b.toNat : Int) = 61) :
    readF ((bs.drop p).take j) = if rightF ((decVal 0 (((bs.drop p).take j).take k) : Nat), ((bs.drop p).take j).drop (k + 1)) = true then some (((decVal 0 (((bs.drop p).take j).take k) : Nat) : Int), ((bs.drop p).take j).drop (k + 1)) else none := by
  have hkj := hD.le
  rw [tk_len g1] at hkj
  have e : b = 61 := u8_eq h3 rfl
  apply read_some hD (by omega)
  · rw [tk_get (by omega), Nat.add_zero, hb1]
    intro e; simp only [Option.some.injEq] at e; subst e; exact h1 rfl
  · rw [tk_get (by omega), hb, e]
theorem ite_yes {α : Type} {x : Option α} {c : Bool} {y : α} (h : x = if c = true then some y else none) (hc : c = true) : x = some y := by rw [h, if_pos hc]
theorem ite_no {α : Type} {x : Option α} {c : Bool} {y : α} (h : x = if c = true then some y else none) (hc : c = false) : x = none := by rw [h, if_neg (by rw [hc]; simp)]
end Go.Fld
namespace Go.Fld
def shortF (l : List Fld.Fd) : Bool := decide (l.length ≤ 110) && l.all fun f => decide (f.2.length ≤ 300)
theorem short_no1 {l : List Fld.Fd} (h : 110 < l.length) : shortF l = false := by
  unfold shortF; rw [decide_eq_false (by omega)]; rfl
theorem short_no2 {l : List Fld.Fd} {i : Nat} {f : Fld.Fd} (hb : l[i]? = some f) (h : 300 < f.2.length) : shortF l = false := by
  unfold shortF
  rw [Bool.and_eq_false_iff]; right
  rw [Bool.eq_false_iff]; intro e
  have := List.all_eq_true.1 e f (List.mem_of_getElem? hb)
  simp at this; omega
theorem short_yes {l : List Fld.Fd} {i : Nat} (h : l.length ≤ 110) (hi : l.length ≤ i) (h2 : (l.take i).all (fun f => decide (f.2.length ≤ 300)) = true) : shortF l = true := by
  rw [List.take_of_length_le hi] at h2
  unfold shortF; rw [decide_eq_true h, h2]; rfl
end Go.Fld
namespace Go.Fld
theorem same_no1 {a b : List Fld.Fd} (h : ¬ (a.length : Int) = (b.length : Int)) : decide (a = b) = false := decide_eq_false fun e => h (by rw [e])
theorem same_no2 {a b : List Fld.Fd} {i : Nat} {f g : Fld.Fd} (hf : a[i]? = some f) (hg : b[i]? = some g) (h : f.1 = g.1 → ¬ f.2 = g.2) : decide (a = b) = false := decide_eq_false fun e => by
  rw [e, hg] at hf; simp only [Option.some.injEq] at hf; subst hf; exact h rfl rfl
theorem same_yes {a b : List Fld.Fd} {i : Nat} (h : (a.length : Int) = (b.length : Int)) (hi : ¬ (i : Int) < (a.length : Int)) (h2 : a.take i = b.take i) : decide (a = b) = true := decide_eq_true (by
  rw [List.take_of_length_le (by omega), List.take_of_length_le (by omega)] at h2; exact h2)
theorem same_next {a b : List Fld.Fd} {i : Nat} {f g : Fld.Fd} (hf : a[i]? = some f) (hg : b[i]? = some g) (h : f.1 = g.1 ∧ f.2 = g.2) (h2 : a.take i = b.take i) : a.take (i + 1) = b.take (i + 1) := by
  rw [take_next hf, take_next hg, h2]; congr 2; exact Prod.ext h.1 h.2
end Go.Fld

/- The statements on fields, as plain facts. -/
set_option linter.unusedVariables false
set_option linter.unusedSimpArgs false
namespace Go.Fld
open Go
theorem show35 : showF 35 = [51, 53] := by rw [show_big (by decide) (by decide), show_dig (by decide) (by decide)]; rfl
theorem show34 : showF 34 = [51, 52] := by rw [show_big (by decide) (by decide), show_dig (by decide) (by decide)]; rfl
abbrev aw : List Fld.Fd := [(35, [65]), (34, [55])]
theorem aw_right : aw.all rightF = true := by decide
theorem aw_enc : encL aw = [51, 53, 61, 65, 1, 51, 52, 61, 55, 1] := by simp only [aw, encL, encF, show35, show34]; rfl
theorem aw_put : putF aw = ([51, 53, 61, 65, 1, 51, 52, 61, 55, 1], 0) := by unfold putF; rw [if_neg (by decide), if_pos aw_right, aw_enc]
theorem aw_parse : parseL [51, 53, 61, 65, 1, 51, 52, 61, 55, 1] = (aw, 0) := by
  have := parse_put (a := aw) (b := []) aw_right rfl (by decide) (by rw [aw_enc]; decide)
  rw [show encL [] = [] from rfl, List.append_nil, List.append_nil, aw_enc] at this; exact this
theorem aw_num : numF aw 34 = (7, true) := by
  have h : parseF [55] = (7, 0) := by have := parse_show (n := 7) (by decide); rw [show_dig (by decide) (by decide)] at this; exact this
  have hg : getF aw 34 = ([55], true) := rfl
  unfold numF; rw [hg]; simp only [h]; rfl
theorem parseGo_len : ∀ (n : Nat) (b : Bs) (acc : List Fld.Fd), b.length ≤ n → acc.length ≤ 100 → (parseGo acc b).1.length ≤ 100 := by
  intro n
  induction n with
  | zero =>
    intro b acc hn ha
    have : b = [] := List.eq_nil_of_length_eq_zero (by omega)
    subst this; rw [parseGo_nil]; exact ha
  | succ n ih =>
    intro b acc hn ha
    by_cases hb : b = []
    · subst hb; rw [parseGo_nil]; exact ha
    cases hc : cutB 1 b with
    | none => rw [parseGo_short hb hc]; exact Nat.zero_le _
    | some p =>
      obtain ⟨t, r⟩ := p
      rw [parseGo_cut hc]
      cases readF t with
      | none => exact Nat.zero_le _
      | some f =>
        simp only
        split
        · exact Nat.zero_le _
        · exact ih r _ (by have := cutB_len hc; omega) (by simp; omega)
theorem parseL_len (b : Bs) : (parseL b).1.length ≤ 100 := by
  unfold parseL; split
  · exact Nat.zero_le _
  · exact parseGo_len _ b [] (Nat.le_refl _) (by simp)
theorem short_len {l : List Fld.Fd} (h : shortF l = true) : l.length ≤ 110 ∧ ∀ f ∈ l, f.2.length ≤ 300 := by
  unfold shortF at h
  simp only [Bool.and_eq_true, decide_eq_true_eq, List.all_eq_true] at h
  exact h
end Go.Fld
namespace Go.Fld
open Go
def awb : Bs := [51, 53, 61, 65, 1, 51, 52, 61, 55, 1]
theorem aw_cmp : (awb = [51, 53, 61, 65, 1, 51, 52, 61, 55, 1]) = True := eq_true rfl
theorem aw_put' : putF aw = (awb, 0) := aw_put
theorem aw_parse' : parseL awb = (aw, 0) := aw_parse
theorem num_cases (l : List Fld.Fd) (tag : Int) : ((getF l tag).2 = true ∧ (parseF (getF l tag).1).2 = 0 ∧ numF l tag = ((parseF (getF l tag).1).1, true)) ∨
    ((getF l tag).2 = true ∧ decide ((parseF (getF l tag).1).2 = 0) = false ∧ numF l tag = (0, false)) ∨ ((getF l tag).2 = false ∧ decide ((parseF (getF l tag).1).2 = 0) = false ∧ numF l tag = (0, false)) := by
  unfold numF
  cases h : (getF l tag).2 with
  | true =>
    by_cases h2 : (parseF (getF l tag).1).2 = 0
    · left; simp [h2]
    · right; left; simp [h2]
  | false =>
    right; right
    refine ⟨rfl, ?_, by simp⟩
    have : ∀ l : List Fld.Fd, (getF l tag).2 = false → (getF l tag).1 = [] := by
      intro l
      induction l with
      | nil => intro _; rfl
      | cons f r ih =>
        intro hh
        rw [getF] at hh ⊢
        split at hh
        · simp at hh
        · rename_i hne; rw [if_neg hne]; exact ih hh
    rw [this l h]
    decide
end Go.Fld
namespace Go.Fld
open Go
theorem put_done {l : List Fld.Fd} (h : (putF l).2 = 0) : putF l = (encL l, 0) ∧ l.all rightF = true ∧ l.length ≤ 100 := by
  unfold putF at h ⊢
  split at h
  · simp at h
  · rename_i h1
    split at h
    · rename_i h2; rw [if_neg h1, if_pos h2]; exact ⟨rfl, h2, by omega⟩
    · simp at h
theorem put_fail {l : List Fld.Fd} (h : ¬ (putF l).2 = 0) : (putF l).1 = [] := by
  unfold putF at h ⊢
  split at h
  · rename_i h1; rw [if_pos h1]
  · rename_i h1
    split at h
    · simp at h
    · rename_i h2; rw [if_neg h1, if_neg h2]
theorem put_len (l : List Fld.Fd) : (putF l).1.length ≤ 26200 := by
  by_cases h : (putF l).2 = 0
  · obtain ⟨h1, h2, h3⟩ := put_done h
    have := encL_len h2
    rw [h1]; simp only; omega
  · rw [put_fail h]; simp
theorem back1 {a b : List Fld.Fd} (ha : (putF a).2 = 0) (hb : (putF b).2 = 0) (h1 : ¬ (50 : Int) < (a.length : Int)) (h2 : ¬ (50 : Int) < (b.length : Int)) : parseL ((putF a).1 ++ (putF b).1) = (a ++ b, 0) := by
  obtain ⟨a1, a2, a3⟩ := put_done ha
  obtain ⟨b1, b2, b3⟩ := put_done hb
  have l1 := put_len a
  have l2 := put_len b
  rw [a1] at l1 ⊢
  rw [b1] at l2 ⊢
  simp only at *
  exact parse_put a2 b2 (by omega) (by rw [List.length_append]; omega)
theorem back2 {c : Bs} (h : (parseL c).2 = 0) : putF (parseL c).1 = (c, 0) := put_parse (Prod.ext rfl h)
theorem parse_len0 {c : Bs} (h : ¬ (parseL c).2 = 0) : (parseL c).1.length = 0 := by rw [parse_err h]; rfl
theorem cuts {l : List Fld.Fd} {q : Nat} (h : (putF l).2 = 0) (hl : ¬ (50 : Int) < (l.length : Int)) (hq : q ≤ (putF l).1.length) :
    ((q = 0 ∨ ∃ b, (putF l).1[q - 1]? = some b ∧ (b.toNat : Int) = 1) → parseL ((putF l).1.take q) = (l.take (((putF l).1.take q).count 1), 0) ∧ ((putF l).1.take q).count 1 ≤ l.length) ∧
    ((q ≠ 0 ∧ ∃ b, (putF l).1[q - 1]? = some b ∧ ¬ (b.toNat : Int) = 1) → parseL ((putF l).1.take q) = ([], 2)) := by
  obtain ⟨e, h2, h3⟩ := put_done h
  have hlen := put_len l
  rw [e] at hq hlen ⊢
  simp only at *
  have hlt : ¬ 65536 < ((encL l).take q).length := by rw [List.length_take]; omega
  have last : ∀ b, (encL l)[q - 1]? = some b → q ≠ 0 → ((encL l).take q).getLast? = some b := by
    intro b hb h0
    rw [List.getLast?_eq_getElem?, List.length_take, Nat.min_eq_left hq, List.getElem?_take, if_pos (by omega)]; exact hb
  rcases enc_cut l q h2 hq with ⟨k, k1, k2, k3⟩ | ⟨k, t, k1, k2, k3, k4⟩
  · have hall : (l.take k).all rightF = true := by
      rw [List.all_eq_true] at h2 ⊢; intro x hx; exact h2 x (List.mem_of_mem_take hx)
    have hp : parseL ((encL l).take q) = (l.take k, 0) := by
      have := parse_put (a := l.take k) (b := []) hall rfl (by simp; omega) (by rw [show encL [] = [] from rfl, List.append_nil, ← k2]; omega)
      rw [show encL [] = [] from rfl, List.append_nil, List.append_nil, ← k2] at this; exact this
    refine ⟨fun _ => ⟨by rw [hp, k3], by rw [k3]; exact k1⟩, ?_⟩
    rintro ⟨h0, b, hb, hb1⟩
    exfalso
    have h5 := last b hb h0
    by_cases hk : l.take k = []
    · rw [k2, hk] at h5; simp [encL] at h5
    · obtain ⟨m, hm⟩ := encL_last hk
      rw [k2, hm, List.getLast?_append] at h5
      simp at h5; subst h5; exact hb1 rfl
  · have hall : (l.take k).all rightF = true := by
      rw [List.all_eq_true] at h2 ⊢; intro x hx; exact h2 x (List.mem_of_mem_take hx)
    have hp : parseL ((encL l).take q) = ([], 2) := by
      unfold parseL
      rw [if_neg hlt, k2, parse_enc _ [] t hall (by simp; omega), parseGo_short k3 (cutB_none.2 k4)]
    refine ⟨?_, fun _ => hp⟩
    rintro (h0 | ⟨b, hb, hb1⟩)
    · exfalso
      subst h0
      have := congrArg List.length k2
      simp only [List.take_zero, List.length_nil, List.length_append] at this
      exact k3 (List.eq_nil_of_length_eq_zero (by omega))
    · exfalso
      by_cases h0 : q = 0
      · subst h0
        have := congrArg List.length k2
        simp only [List.take_zero, List.length_nil, List.length_append] at this
        exact k3 (List.eq_nil_of_length_eq_zero (by omega))
      have h5 := last b hb h0
      rw [k2, List.getLast?_append] at h5
      cases ht : t.getLast? with
      | none => exact k3 (List.getLast?_eq_none_iff.1 ht)
      | some x =>
        rw [ht] at h5; simp at h5; subst h5
        have : x = 1 := u8_eq hb1 rfl
        subst this
        exact k4 (List.mem_of_getLast? ht)
theorem mod_q {c : Int} {n : Nat} (h0 : 0 ≤ c) (h1 : c < 65536) (hn : n ≤ 26200) : ∃ q : Nat, Int.tmod (IntKind.i64.wrap c) (IntKind.i64.wrap ((n : Int) + 1)) = (q : Int) ∧ q ≤ n := by
  rw [IntKind.wrap_i64, IntKind.wrap_i64]
  have e1 : (c + 9223372036854775808) % 18446744073709551616 - 9223372036854775808 = c := by omega
  have e2 : ((n : Int) + 1 + 9223372036854775808) % 18446744073709551616 - 9223372036854775808 = (n : Int) + 1 := by omega
  rw [e1, e2, Int.tmod_eq_emod_of_nonneg h0]
  have h2 := Int.emod_nonneg c (show (n : Int) + 1 ≠ 0 by omega)
  have h3 := Int.emod_lt_of_pos c (show 0 < (n : Int) + 1 by omega)
  exact ⟨(c % ((n : Int) + 1)).toNat, by omega, by omega⟩
theorem count_next1 {l : Bs} {i : Nat} {b : UInt8} (hb : l[i]? = some b) (h : (b.toNat : Int) = 1) : (l.take (i + 1)).count 1 = (l.take i).count 1 + 1 := by
  rw [take_next hb, List.count_append, u8_eq (c := 1) h rfl]; rfl
theorem count_next2 {l : Bs} {i : Nat} {b : UInt8} (hb : l[i]? = some b) (h : ¬ (b.toNat : Int) = 1) : (l.take (i + 1)).count 1 = (l.take i).count 1 := by
  rw [take_next hb, List.count_append, List.count_eq_zero_of_not_mem (a := 1) (l := [b]) (by simp; exact fun e => u8_ne h rfl e.symm)]; rfl
end Go.Fld

/- Frames: what is put, and what stands at the beginning of bytes; no program in sight. -/
set_option linter.unusedVariables false
set_option linter.unusedSimpArgs false
namespace Go.Fld
open Go

def beg : Bs := [56, 61, 70, 73, 88, 46, 52, 46, 52, 1, 57, 61]
def sumF (l : Bs) : Nat := l.foldl (fun s c => (s + c.toNat) % 256) 0
def trailF (s : Nat) : Bs := [49, 48, 61, UInt8.ofNat (48 + s / 100), UInt8.ofNat (48 + s / 10 % 10), UInt8.ofNat (48 + s % 10), 1]
def rightB (b : Bs) : Bool := decide (1 ≤ b.length) && decide (b.length ≤ 8000) && decide ((parseL b).2 = 0) && (parseL b).1.all fun f => !(decide (8 ≤ f.1) && decide (f.1 ≤ 10))
def preB (b : Bs) : Bs := beg ++ showF b.length ++ [1] ++ b
def putB (b : Bs) : Bs × Int := if 8000 < b.length then ([], 4) else if rightB b = true then (preB b ++ trailF (sumF (preB b)), 0) else ([], 1)
def begins (b : Bs) : Bool := decide (b.take 12 = beg.take b.length)
/-- The first place behind the first byte at which a frame may begin. -/
def junkGo : Nat → Bs → Nat
  | n, [] => n
  | n, c :: l => if begins (c :: l) = true then n else junkGo (n + 1) l
def junkF (b : Bs) : Nat := match b with
  | [] => 0
  | _ :: l => junkGo 1 l
inductive Hd where
  | need
  | junk
  | frame (start long : Nat)
  deriving DecidableEq
def headR (r : Bs) : Hd :=
  if (r.takeWhile isDig).head? = some 48 ∨ 8000 < decVal 0 (r.takeWhile isDig) then .junk
  else match r.drop (r.takeWhile isDig).length with
    | [] => .need
    | c :: rest => if c ≠ 1 ∨ r.takeWhile isDig = [] then .junk
      else if rest.length < decVal 0 (r.takeWhile isDig) + 7 then .need else .frame (13 + (r.takeWhile isDig).length) (decVal 0 (r.takeWhile isDig))
def headF (b : Bs) : Hd := if begins b = false then .junk else if b.length < 12 then .need else headR (b.drop 12)
def nextB (b : Bs) : Int × Bs × Int :=
  match headF b with
  | .need => (0, [], 0)
  | .junk => (2, [], (junkF b : Nat))
  | .frame s n => if (b.drop (s + n)).take 7 = trailF (sumF (b.take (s + n))) ∧ rightB ((b.drop s).take n) = true then (1, (b.drop s).take n, ((s + n + 7 : Nat) : Int)) else (2, [], (junkF b : Nat))

theorem sumF_lt (l : Bs) : sumF l < 256 := by
  unfold sumF
  have : ∀ (l : Bs) (s : Nat), s < 256 → l.foldl (fun s c => (s + c.toNat) % 256) s < 256 := by
    intro l
    induction l with
    | nil => intro s h; exact h
    | cons c l ih => intro s _; rw [List.foldl_cons]; exact ih _ (Nat.mod_lt _ (by decide))
  exact this l 0 (by decide)
theorem sumF_snoc (l : Bs) (c : UInt8) : sumF (l ++ [c]) = (sumF l + c.toNat) % 256 := by unfold sumF; rw [List.foldl_append]; rfl
theorem sumF_nil : sumF [] = 0 := rfl
theorem sumF_next {l : Bs} {i : Nat} {b : UInt8} (hb : l[i]? = some b) : sumF (l.take (i + 1)) = (sumF (l.take i) + b.toNat) % 256 := by rw [take_next hb, sumF_snoc]
theorem sumF_app (l m : Bs) : sumF (l ++ m) = (sumF l + sumF m) % 256 := by
  have : ∀ (n : Nat) (m : Bs), m.length = n → sumF (l ++ m) = (sumF l + sumF m) % 256 := by
    intro n
    induction n with
    | zero =>
      intro m h
      have : m = [] := List.eq_nil_of_length_eq_zero h
      subst this; rw [List.append_nil, sumF_nil, Nat.add_zero, Nat.mod_eq_of_lt (sumF_lt l)]
    | succ n ih =>
      intro m h
      have hne : m ≠ [] := by rintro rfl; simp at h
      obtain ⟨k, c, rfl⟩ : ∃ k c, m = k ++ [c] := ⟨m.dropLast, m.getLast hne, (List.dropLast_concat_getLast hne).symm⟩
      rw [← List.append_assoc, sumF_snoc, sumF_snoc, ih k (by simpa using h)]
      omega
  exact this m.length m rfl

theorem put_long' {b : Bs} (h : 8000 < b.length) : putB b = ([], 4) := by unfold putB; rw [if_pos h]
theorem put_bad' {b : Bs} (h : ¬ 8000 < b.length) (hr : rightB b = false) : putB b = ([], 1) := by unfold putB; rw [if_neg h, if_neg (by rw [hr]; simp)]
theorem put_ok' {b : Bs} (h : ¬ 8000 < b.length) (hr : rightB b = true) : putB b = (preB b ++ trailF (sumF (preB b)), 0) := by unfold putB; rw [if_neg h, if_pos hr]
theorem right_no1 {b : Bs} (h : b.length < 1 ∨ 8000 < b.length) : rightB b = false := by
  unfold rightB
  rcases h with h | h
  · rw [decide_eq_false (p := 1 ≤ b.length) (by omega)]; rfl
  · rw [decide_eq_false (p := b.length ≤ 8000) (by omega), Bool.and_false]; rfl
theorem right_no2 {b : Bs} (h : ¬ (parseL b).2 = 0) : rightB b = false := by
  unfold rightB; rw [decide_eq_false h, Bool.and_false]; rfl
theorem right_no3 {b : Bs} {i : Nat} {f : Fld.Fd} (hb : (parseL b).1[i]? = some f) (h1 : 8 ≤ f.1) (h2 : f.1 ≤ 10) : rightB b = false := by
  unfold rightB
  have : ((parseL b).1.all fun f => !(decide (8 ≤ f.1) && decide (f.1 ≤ 10))) = false := by
    rw [Bool.eq_false_iff]; intro e
    have := List.all_eq_true.1 e f (List.mem_of_getElem? hb)
    simp only [Bool.not_eq_true', Bool.and_eq_false_imp, decide_eq_true_eq, decide_eq_false_iff_not] at this
    exact this h1 h2
  rw [this, Bool.and_false]
theorem right_yes {b : Bs} {i : Nat} (h1 : 1 ≤ b.length) (h2 : b.length ≤ 8000) (h3 : (parseL b).2 = 0) (hi : (parseL b).1.length ≤ i) (h4 : ((parseL b).1.take i).all (fun f => !(decide (8 ≤ f.1) && decide (f.1 ≤ 10))) = true) : rightB b = true := by
  rw [List.take_of_length_le hi] at h4
  unfold rightB
  rw [decide_eq_true h1, decide_eq_true h2, decide_eq_true h3, h4]; rfl
end Go.Fld
namespace Go.Fld
open Go
theorem u8_add (a : Nat) (b : UInt8) : IntKind.u8.wrap ((a : Int) + (b.toNat : Int)) = (((a + b.toNat) % 256 : Nat) : Int) := by rw [IntKind.wrap_u8]; omega
theorem i64_small {n : Nat} (h : n < 256) : IntKind.i64.wrap (n : Int) = (n : Int) := by rw [IntKind.wrap_i64]; omega
theorem i64_add (a : Nat) (b : UInt8) (h : a < 256) : (IntKind.i64.wrap ((a : Int) + IntKind.i64.wrap (b.toNat : Int))).tmod 256 = (((a + b.toNat) % 256 : Nat) : Int) := by
  have hb := b.toNat_lt
  have e : IntKind.i64.wrap ((a : Int) + IntKind.i64.wrap (b.toNat : Int)) = ((a + b.toNat : Nat) : Int) := by rw [IntKind.wrap_i64, IntKind.wrap_i64]; omega
  rw [e]; rfl
theorem sum_done {l : Bs} {i : Nat} (h : ¬ (i : Int) < (l.length : Int)) : sumF (l.take i) = sumF l := by rw [List.take_of_length_le (by omega)]
end Go.Fld

/- Frames: what stands at the beginning of bytes; what is put is found; no program in sight. -/
set_option linter.unusedVariables false
set_option linter.unusedSimpArgs false
namespace Go.Fld
open Go

/-! ### the beginning -/
theorem beg_len : beg.length = 12 := rfl
theorem begins_iff {b : Bs} : begins b = true ↔ b.take 12 = beg.take b.length := by unfold begins; rw [decide_eq_true_eq]
theorem begins_nil : begins [] = true := by rw [begins_iff]; rfl
theorem begins_app (m : Bs) : begins (beg ++ m) = true := by
  rw [begins_iff, List.take_left' beg_len, List.take_of_length_le (by rw [List.length_append, beg_len]; omega)]
theorem begins_long {b : Bs} (h : 12 ≤ b.length) : begins b = true ↔ b.take 12 = beg := by
  rw [begins_iff, List.take_of_length_le (l := beg) (by rw [beg_len]; exact h)]
theorem begins_short {b : Bs} (h : b.length ≤ 12) : begins b = true ↔ b = beg.take b.length := by
  rw [begins_iff, List.take_of_length_le h]
theorem begins_head {c : UInt8} {l : Bs} (h : c ≠ 56) : begins (c :: l) = false := by
  rw [Bool.eq_false_iff]; intro e
  rw [begins_iff] at e
  rw [List.length_cons, List.take_succ_cons] at e
  unfold beg at e
  rw [List.take_succ_cons] at e
  exact h (List.cons.inj e).1
theorem begins_pre {b m : Bs} (h : begins (b ++ m) = true) : begins b = true := by
  rw [begins_iff] at h ⊢
  have h2 := congrArg (List.take b.length) h
  rw [List.take_take, List.take_take, List.length_append] at h2
  rw [show min b.length (b.length + m.length) = b.length by omega] at h2
  rw [← h2, show min b.length 12 = min 12 b.length by omega, ← List.take_take, List.take_left' rfl]
theorem begins_no {b m : Bs} (h : begins b = false) : begins (b ++ m) = false := by
  rw [Bool.eq_false_iff] at h ⊢
  exact fun e => h (begins_pre e)
theorem begins_split {b : Bs} (h : 12 ≤ b.length) (hb : begins b = true) : b = beg ++ b.drop 12 := by
  have := (begins_long h).1 hb
  rw [← this, List.take_append_drop]

/-! ### junk -/
theorem junkGo_spec : ∀ (l : Bs) (n : Nat), n ≤ junkGo n l ∧ junkGo n l ≤ n + l.length ∧ begins (l.drop (junkGo n l - n)) = true ∧ ∀ i, i < junkGo n l - n → begins (l.drop i) = false
  | [], n => by
    unfold junkGo
    exact ⟨Nat.le_refl _, by simp, by simp [begins_nil], fun i hi => by omega⟩
  | c :: l, n => by
    unfold junkGo
    split
    · rename_i h
      exact ⟨Nat.le_refl _, by omega, by rw [Nat.sub_self, List.drop_zero]; exact h, fun i hi => by omega⟩
    · rename_i h
      obtain ⟨h1, h2, h3, h4⟩ := junkGo_spec l (n + 1)
      refine ⟨by omega, by rw [List.length_cons]; omega, ?_, ?_⟩
      · rw [show junkGo (n + 1) l - n = (junkGo (n + 1) l - (n + 1)) + 1 by omega, List.drop_succ_cons]; exact h3
      · intro i hi
        cases i with
        | zero => rw [List.drop_zero]; simpa using h
        | succ i => rw [List.drop_succ_cons]; exact h4 i (by omega)
theorem junk_spec {b : Bs} (hb : b ≠ []) : 1 ≤ junkF b ∧ junkF b ≤ b.length ∧ begins (b.drop (junkF b)) = true ∧ ∀ i, 1 ≤ i → i < junkF b → begins (b.drop i) = false := by
  cases b with
  | nil => exact absurd rfl hb
  | cons c l =>
    obtain ⟨h1, h2, h3, h4⟩ := junkGo_spec l 1
    have e : junkF (c :: l) = junkGo 1 l := rfl
    rw [e]
    refine ⟨h1, by rw [List.length_cons]; omega, ?_, ?_⟩
    · rw [show junkGo 1 l = (junkGo 1 l - 1) + 1 by omega, List.drop_succ_cons]; exact h3
    · intro i hi hlt
      obtain ⟨j, rfl⟩ : ∃ j, i = j + 1 := ⟨i - 1, by omega⟩
      rw [List.drop_succ_cons]; exact h4 j (by omega)
theorem junk_eq {b : Bs} {j : Nat} (h1 : 1 ≤ j) (h2 : j ≤ b.length) (h3 : begins (b.drop j) = true) (h4 : ∀ i, 1 ≤ i → i < j → begins (b.drop i) = false) : junkF b = j := by
  have hb : b ≠ [] := by rintro rfl; simp at h2; omega
  obtain ⟨g1, g2, g3, g4⟩ := junk_spec hb
  rcases Nat.lt_trichotomy (junkF b) j with h | h | h
  · have := h4 _ g1 h; rw [g3] at this; exact absurd this (by simp)
  · exact h
  · have := g4 _ h1 h; rw [h3] at this; exact absurd this (by simp)
theorem junk_end {b : Bs} (hb : b ≠ []) (h4 : ∀ i, 1 ≤ i → i < b.length → begins (b.drop i) = false) : junkF b = b.length :=
  junk_eq (by cases b with | nil => exact absurd rfl hb | cons => simp) (Nat.le_refl _) (by rw [List.drop_length]; exact begins_nil) h4

/-! ### the head -/
theorem tw_all (r : Bs) : (r.takeWhile isDig).all isDig = true := by
  induction r with
  | nil => rfl
  | cons c r ih =>
    rw [List.takeWhile_cons]
    split
    · rename_i h; rw [List.all_cons, h, ih]; rfl
    · rfl
theorem tw_split (r : Bs) : r = r.takeWhile isDig ++ r.drop (r.takeWhile isDig).length ∧ ∀ c, (r.drop (r.takeWhile isDig).length).head? = some c → isDig c = false := by
  induction r with
  | nil => exact ⟨rfl, by simp⟩
  | cons c r ih =>
    rw [List.takeWhile_cons]
    split
    · rename_i h
      rw [List.length_cons, List.drop_succ_cons]
      refine ⟨?_, ih.2⟩
      have h2 := ih.1
      rw [List.cons_append, ← h2]
    · rename_i h
      refine ⟨rfl, ?_⟩
      intro d hd
      simp only [List.length_nil, List.drop_zero, List.head?_cons, Option.some.injEq] at hd
      subst hd
      simpa using h
theorem tw_at {ds : Bs} {m : Bs} (hd : ds.all isDig = true) (hm : ∀ c, m.head? = some c → isDig c = false) : (ds ++ m).takeWhile isDig = ds := by
  induction ds with
  | nil =>
    cases m with
    | nil => rfl
    | cons c m => rw [List.nil_append, List.takeWhile_cons, hm c rfl]; rfl
  | cons d ds ih =>
    rw [List.all_cons, Bool.and_eq_true] at hd
    rw [List.cons_append, List.takeWhile_cons, if_pos hd.1, ih hd.2]
theorem tw_app {ds m : Bs} (hd : ds.all isDig = true) : (ds ++ m).takeWhile isDig = ds ++ m.takeWhile isDig := by
  induction ds with
  | nil => rfl
  | cons d ds ih =>
    rw [List.all_cons, Bool.and_eq_true] at hd
    rw [List.cons_append, List.takeWhile_cons, if_pos hd.1, ih hd.2, List.cons_append]
theorem dec_mono (ds m : Bs) : decVal 0 ds ≤ decVal 0 (ds ++ m) := by
  rw [decVal_append]; exact decVal_le _ _
theorem one_nodig : isDig 1 = false := rfl

/-- A head that is as it should be. -/
structure HdOK (ds : Bs) (n : Nat) : Prop where
  dig : ds.all isDig = true
  ne : ds ≠ []
  lead : ds.head? ≠ some 48
  val : decVal 0 ds = n
  le : n ≤ 8000
theorem HdOK.len {ds : Bs} {n : Nat} (h : HdOK ds n) : ds.length ≤ 4 ∧ 1 ≤ n ∧ 1 ≤ ds.length := by
  obtain ⟨h1, h2, h3, h4, h5⟩ := h
  cases ds with
  | nil => exact absurd rfl h2
  | cons c l =>
    rw [List.all_cons, Bool.and_eq_true] at h1
    have hl := decVal_lead (l := l) h1.1 (by simpa using h3)
    rw [h4] at hl
    refine ⟨?_, ?_, by simp⟩
    · rcases Nat.lt_or_ge 4 (c :: l).length with h | h
      · exfalso
        have : 10 ^ 4 ≤ 10 ^ l.length := Nat.pow_le_pow_right (by decide) (by simp at h; omega)
        omega
      · exact h
    · have : 0 < 10 ^ l.length := Nat.pow_pos (by decide)
      omega
theorem HdOK.show {ds : Bs} {n : Nat} (h : HdOK ds n) : showF (n : Int) = ds := by
  have hok : numOK (n : Int) = true := numOK_iff.2 ⟨by omega, by have := h.le; omega⟩
  have e1 : showF (n : Int) = Lib.decDigits n := by
    unfold showF; rw [if_pos hok]; unfold Lib.itoa; rw [if_neg (by omega)]; rfl
  rw [e1, ← h.val, decDigits_of _ ds rfl h.dig h.ne (fun e => absurd e h.lead)]
theorem HdOK.of_show {n : Nat} (h1 : 1 ≤ n) (h2 : n ≤ 8000) : HdOK (showF (n : Int)) n := by
  have hok : numOK (n : Int) = true := numOK_iff.2 ⟨by omega, by omega⟩
  have e1 : showF (n : Int) = Lib.decDigits n := by
    unfold showF; rw [if_pos hok]; unfold Lib.itoa; rw [if_neg (by omega)]; rfl
  rw [e1]
  exact ⟨decDigits_dig n, decDigits_ne n, decDigits_head n (by omega), decDigits_val n, h2⟩
theorem headR_at {ds rest : Bs} {n : Nat} (h : HdOK ds n) : headR (ds ++ 1 :: rest) = if rest.length < n + 7 then .need else .frame (13 + ds.length) n := by
  have e : (ds ++ 1 :: rest).takeWhile isDig = ds := tw_at h.dig (fun c hc => by simp at hc; subst hc; exact one_nodig)
  unfold headR
  rw [e, if_neg (by rintro (h' | h'); exact h.lead h'; rw [h.val] at h'; have := h.le; omega), List.drop_left, h.val]
  simp only
  rw [if_neg (by rintro (h' | h'); exact h' rfl; exact h.ne h')]
theorem headR_part {ds : Bs} {n : Nat} (h : HdOK ds n) : headR ds = .need := by
  have e : ds.takeWhile isDig = ds := by
    have := tw_at (m := []) h.dig (fun c hc => by simp at hc)
    rwa [List.append_nil] at this
  unfold headR
  rw [e, if_neg (by rintro (h' | h'); exact h.lead h'; rw [h.val] at h'; have := h.le; omega), List.drop_length]
theorem headR_nil : headR [] = .need := by
  unfold headR
  rw [List.takeWhile_nil, if_neg (by rw [decVal_nil]; simp)]; rfl
theorem headR_inv {r : Bs} {s n : Nat} (h : headR r = .frame s n) : ∃ ds rest, r = ds ++ 1 :: rest ∧ HdOK ds n ∧ n + 7 ≤ rest.length ∧ s = 13 + ds.length := by
  unfold headR at h
  split at h
  · exact absurd h (by simp)
  · rename_i h1
    split at h
    · exact absurd h (by simp)
    · rename_i c rest hd
      split at h
      · exact absurd h (by simp)
      · rename_i h2
        split at h
        · exact absurd h (by simp)
        · rename_i h3
          simp only [Hd.frame.injEq] at h
          obtain ⟨hs, hn⟩ := h
          have hc : c = 1 := Classical.byContradiction fun e => h2 (.inl e)
          subst hc
          have hsp := (tw_split r).1
          rw [hd] at hsp
          refine ⟨_, rest, hsp, ⟨tw_all r, fun e => h2 (.inr e), fun e => h1 (.inl e), hn, ?_⟩, by omega, hs.symm⟩
          rcases Nat.lt_or_ge 8000 (decVal 0 (r.takeWhile isDig)) with h | h
          · exact absurd (.inr h) h1
          · omega
theorem headR_stay {r m : Bs} (h : headR r ≠ .need) : headR (r ++ m) = headR r := by
  have hall := tw_all r
  obtain ⟨hsp, hno⟩ := tw_split r
  generalize hds : r.takeWhile isDig = ds at *
  generalize htl : r.drop ds.length = tl at *
  cases tl with
  | nil =>
    have e : (r ++ m).takeWhile isDig = ds ++ m.takeWhile isDig := by rw [hsp, List.append_nil, tw_app hall]
    unfold headR at h ⊢
    rw [hds, htl] at h
    rw [hds, htl, e]
    by_cases hc : ds.head? = some 48 ∨ 8000 < decVal 0 ds
    · rw [if_pos hc, if_pos]
      rcases hc with hc | hc
      · left; cases ds with
        | nil => simp at hc
        | cons d ds => simpa using hc
      · right; have := dec_mono ds (m.takeWhile isDig); omega
    · rw [if_neg hc] at h; exact absurd rfl h
  | cons c rest =>
    have e : (r ++ m).takeWhile isDig = ds := by rw [hsp, List.append_assoc]; exact tw_at hall (fun d hd => hno d (by simpa using hd))
    have e2 : (r ++ m).drop ds.length = c :: (rest ++ m) := by rw [hsp, List.append_assoc, List.drop_left]; rfl
    unfold headR at h ⊢
    rw [hds, htl] at h
    rw [hds, htl, e, e2]
    by_cases hc : ds.head? = some 48 ∨ 8000 < decVal 0 ds
    · rw [if_pos hc, if_pos hc]
    · rw [if_neg hc] at h ⊢
      rw [if_neg hc]
      simp only at h ⊢
      by_cases h2 : c ≠ 1 ∨ ds = []
      · rw [if_pos h2, if_pos h2]
      · rw [if_neg h2] at h ⊢
        rw [if_neg h2]
        by_cases h3 : rest.length < decVal 0 ds + 7
        · rw [if_pos h3] at h; exact absurd rfl h
        · rw [if_neg h3, if_neg (by rw [List.length_append]; omega)]
theorem headF_stay {b m : Bs} (h : headF b ≠ .need) : headF (b ++ m) = headF b := by
  unfold headF at h ⊢
  by_cases h1 : begins b = false
  · rw [if_pos h1, if_pos (begins_no h1)]
  · rw [if_neg h1] at h ⊢
    by_cases h2 : b.length < 12
    · rw [if_pos h2] at h; exact absurd rfl h
    · rw [if_neg h2] at h ⊢
      have hb : begins b = true := by simpa using h1
      have hbe := begins_split (by omega) hb
      rw [if_neg (by rw [hbe, List.append_assoc, begins_app]; simp), if_neg (by rw [List.length_append]; omega), List.drop_append_of_le_length (by omega)]
      exact headR_stay h
theorem headF_inv {b : Bs} {s n : Nat} (h : headF b = .frame s n) : ∃ ds rest, b = beg ++ (ds ++ 1 :: rest) ∧ HdOK ds n ∧ n + 7 ≤ rest.length ∧ s = 13 + ds.length := by
  unfold headF at h
  split at h
  · exact absurd h (by simp)
  · rename_i h1
    split at h
    · exact absurd h (by simp)
    · rename_i h2
      obtain ⟨ds, rest, hr, h3⟩ := headR_inv h
      exact ⟨ds, rest, by rw [← hr]; exact begins_split (by omega) (by simpa using h1), h3⟩
theorem headF_at {ds rest : Bs} {n : Nat} (h : HdOK ds n) : headF (beg ++ (ds ++ 1 :: rest)) = if rest.length < n + 7 then .need else .frame (13 + ds.length) n := by
  unfold headF
  rw [if_neg (by rw [begins_app]; simp), if_neg (by rw [List.length_append, beg_len]; omega), List.drop_left' beg_len, headR_at h]

/-! ### what stands there -/
def kF (b : Bs) : Hd :=
  match headF b with
  | .need => .need
  | .junk => .junk
  | .frame s n => if (b.drop (s + n)).take 7 = trailF (sumF (b.take (s + n))) ∧ rightB ((b.drop s).take n) = true then .frame s n else .junk
theorem nextB_need {b : Bs} (h : kF b = .need) : nextB b = (0, [], 0) := by
  unfold kF at h; unfold nextB
  cases e : headF b with
  | need => rfl
  | junk => rw [e] at h; exact absurd h (by simp)
  | frame s n => rw [e] at h; simp only at h; split at h <;> exact absurd h (by simp)
theorem nextB_junk {b : Bs} (h : kF b = .junk) : nextB b = (2, [], ((junkF b : Nat) : Int)) := by
  unfold kF at h; unfold nextB
  cases e : headF b with
  | need => rw [e] at h; exact absurd h (by simp)
  | junk => rfl
  | frame s n =>
    rw [e] at h; simp only at h ⊢
    split at h
    · exact absurd h (by simp)
    · rename_i hc; rw [if_neg hc]
theorem nextB_frame {b : Bs} {s n : Nat} (h : kF b = .frame s n) : nextB b = (1, (b.drop s).take n, ((s + n + 7 : Nat) : Int)) := by
  unfold kF at h; unfold nextB
  cases e : headF b with
  | need => rw [e] at h; exact absurd h (by simp)
  | junk => rw [e] at h; exact absurd h (by simp)
  | frame s' n' =>
    rw [e] at h; simp only at h ⊢
    split at h
    · rename_i hc
      simp only [Hd.frame.injEq] at h
      obtain ⟨rfl, rfl⟩ := h
      rw [if_pos hc]
    · exact absurd h (by simp)
theorem trail_len (s : Nat) : (trailF s).length = 7 := rfl
theorem pre_len (b : Bs) : (preB b).length = 13 + (showF (b.length : Int)).length + b.length := by
  unfold preB
  simp only [List.length_append, beg_len, List.length_cons, List.length_nil]; omega
theorem right_len {b : Bs} (h : rightB b = true) : 1 ≤ b.length ∧ b.length ≤ 8000 := by
  unfold rightB at h
  simp only [Bool.and_eq_true, decide_eq_true_eq] at h
  exact ⟨h.1.1.1, h.1.1.2⟩
/-- What a frame that is told looks like. -/
theorem kF_inv {b : Bs} {s n : Nat} (h : kF b = .frame s n) : s + n + 7 ≤ b.length ∧ ((b.drop s).take n).length = n ∧ rightB ((b.drop s).take n) = true ∧ b.take (s + n) = preB ((b.drop s).take n) ∧ b.take (s + n + 7) = preB ((b.drop s).take n) ++ trailF (sumF (preB ((b.drop s).take n))) ∧ 14 ≤ s ∧ s ≤ 17 := by
  unfold kF at h
  split at h
  · exact absurd h (by simp)
  · exact absurd h (by simp)
  · rename_i s' n' e
    split at h
    · rename_i hc
      simp only [Hd.frame.injEq] at h
      obtain ⟨rfl, rfl⟩ := h
      obtain ⟨ds, rest, hb, hd, hl, hs⟩ := headF_inv e
      have hlen : b.length = 13 + ds.length + rest.length := by rw [hb]; simp only [List.length_append, List.length_cons, beg_len]; omega
      have hdr : b.drop s' = rest := by
        rw [hb, hs, show beg ++ (ds ++ 1 :: rest) = (beg ++ ds ++ [1]) ++ rest by simp]
        exact List.drop_left' (by simp only [List.length_append, List.length_cons, List.length_nil, beg_len]; omega)
      have hbl : ((b.drop s').take n').length = n' := by rw [hdr, List.length_take]; omega
      have htk : b.take (s' + n') = preB ((b.drop s').take n') := by
        unfold preB
        rw [hbl, hd.show, hdr, hb, hs, show beg ++ (ds ++ 1 :: rest) = (beg ++ ds ++ [1]) ++ rest by simp, show 13 + ds.length + n' = (beg ++ ds ++ [1]).length + n' by simp only [List.length_append, List.length_cons, List.length_nil, beg_len]; omega, List.take_length_add_append]
      refine ⟨by omega, hbl, hc.2, htk, ?_, by have := hd.len; omega, by have := hd.len; omega⟩
      have hc1 := hc.1
      rw [htk] at hc1
      rw [List.take_add, htk, hc1]
    · exact absurd h (by simp)
theorem kF_at {body m : Bs} (hr : rightB body = true) : kF (preB body ++ trailF (sumF (preB body)) ++ m) = .frame (13 + (showF (body.length : Int)).length) body.length ∧
    (((preB body ++ trailF (sumF (preB body)) ++ m).drop (13 + (showF (body.length : Int)).length)).take body.length) = body ∧ 13 + (showF (body.length : Int)).length + body.length + 7 = (preB body ++ trailF (sumF (preB body))).length := by
  obtain ⟨h1, h2⟩ := right_len hr
  have hd := HdOK.of_show h1 h2
  have hpl := pre_len body
  have hsplit : preB body ++ trailF (sumF (preB body)) ++ m = beg ++ (showF (body.length : Int) ++ 1 :: (body ++ trailF (sumF (preB body)) ++ m)) := by unfold preB; simp
  have hh : headF (preB body ++ trailF (sumF (preB body)) ++ m) = .frame (13 + (showF (body.length : Int)).length) body.length := by
    rw [hsplit, headF_at hd, if_neg (by simp only [List.length_append, trail_len]; omega)]
  have hdr : (preB body ++ trailF (sumF (preB body)) ++ m).drop (13 + (showF (body.length : Int)).length) = body ++ trailF (sumF (preB body)) ++ m := by
    rw [hsplit, show beg ++ (showF (body.length : Int) ++ 1 :: (body ++ trailF (sumF (preB body)) ++ m)) = (beg ++ showF (body.length : Int) ++ [1]) ++ (body ++ trailF (sumF (preB body)) ++ m) by simp]
    exact List.drop_left' (by simp only [List.length_append, List.length_cons, List.length_nil, beg_len]; omega)
  have hbody : ((preB body ++ trailF (sumF (preB body)) ++ m).drop (13 + (showF (body.length : Int)).length)).take body.length = body := by
    rw [hdr, List.append_assoc]; exact List.take_left
  refine ⟨?_, hbody, by rw [List.length_append, hpl, trail_len]⟩
  unfold kF
  rw [hh]
  simp only
  have hc : ((preB body ++ trailF (sumF (preB body)) ++ m).drop (13 + (showF (body.length : Int)).length + body.length)).take 7 = trailF (sumF ((preB body ++ trailF (sumF (preB body)) ++ m).take (13 + (showF (body.length : Int)).length + body.length))) := by
    rw [← hpl, List.append_assoc, List.drop_left, List.take_left, List.take_left' (trail_len _)]
  rw [if_pos ⟨hc, by rw [hbody]; exact hr⟩]
theorem kF_stay {b m : Bs} (h : kF b ≠ .need) : kF (b ++ m) = kF b := by
  cases hk : headF b with
  | need => exfalso; apply h; unfold kF; rw [hk]
  | junk =>
    have := headF_stay (m := m) (by rw [hk]; simp)
    unfold kF
    rw [this, hk]
  | frame s n =>
    have hs := headF_stay (m := m) (by rw [hk]; simp)
    obtain ⟨ds, rest, hb, hd, hl, hs'⟩ := headF_inv hk
    have hlen : b.length = 13 + ds.length + rest.length := by rw [hb]; simp only [List.length_append, List.length_cons, beg_len]; omega
    unfold kF
    rw [hs, hk]
    simp only
    rw [List.take_append_of_le_length (by omega), List.drop_append_of_le_length (by omega), List.drop_append_of_le_length (by omega), List.take_append_of_le_length (by rw [List.length_drop]; omega), List.take_append_of_le_length (by rw [List.length_drop]; omega)]
theorem kF_nil : kF [] = .need := by
  unfold kF headF
  rw [if_neg (by rw [begins_nil]; simp), if_pos (by simp)]
theorem kF_ne {b : Bs} (h : kF b ≠ .need) : b ≠ [] := by rintro rfl; exact h kF_nil
theorem kF_nob {b : Bs} (h : begins b = false) : kF b = .junk := by
  unfold kF headF
  rw [if_pos h]
/-- The first bytes of a frame. -/
theorem kF_part {body : Bs} {k : Nat} (hr : rightB body = true) (hk : k < (preB body ++ trailF (sumF (preB body))).length) : kF ((preB body ++ trailF (sumF (preB body))).take k) = .need := by
  obtain ⟨h1, h2⟩ := right_len hr
  have hd := HdOK.of_show h1 h2
  have hpl := pre_len body
  have hdl := hd.len
  have hsplit : preB body ++ trailF (sumF (preB body)) = beg ++ (showF (body.length : Int) ++ 1 :: (body ++ trailF (sumF (preB body)))) := by unfold preB; simp
  rw [List.length_append, hpl, trail_len] at hk
  have hbeg : begins ((preB body ++ trailF (sumF (preB body))).take k) = true := by
    apply begins_pre (m := (preB body ++ trailF (sumF (preB body))).drop k)
    rw [List.take_append_drop, hsplit]; exact begins_app _
  have hh : headF ((preB body ++ trailF (sumF (preB body))).take k) = .need := by
    unfold headF
    rw [if_neg (by rw [hbeg]; simp)]
    by_cases h12 : k < 12
    · rw [if_pos (by rw [List.length_take]; omega)]
    · rw [if_neg (by rw [List.length_take, List.length_append, hpl, trail_len]; omega), hsplit, List.drop_take, List.drop_left' beg_len]
      by_cases h3 : k - 12 ≤ (showF (body.length : Int)).length
      · rw [List.take_append_of_le_length h3]
        by_cases h0 : k - 12 = 0
        · rw [h0, List.take_zero]; exact headR_nil
        · -- some of the digits
          refine headR_part (n := decVal 0 ((showF (body.length : Int)).take (k - 12))) ⟨?_, ?_, ?_, rfl, ?_⟩
          · rw [List.all_eq_true]; intro c hc; exact List.all_eq_true.1 hd.dig c (List.mem_of_mem_take hc)
          · intro e; have := congrArg List.length e; rw [List.length_take, List.length_nil] at this; omega
          · have e := hd.lead
            cases hx : showF (body.length : Int) with
            | nil => exact absurd hx hd.ne
            | cons c l =>
              rw [hx] at e
              obtain ⟨j, hj⟩ : ∃ j, k - 12 = j + 1 := ⟨k - 13, by omega⟩
              rw [hj, List.take_succ_cons]; simpa using e
          · have := dec_mono ((showF (body.length : Int)).take (k - 12)) ((showF (body.length : Int)).drop (k - 12))
            rw [List.take_append_drop, hd.val] at this; omega
      · obtain ⟨j, hj⟩ : ∃ j, k - 12 = (showF (body.length : Int)).length + (j + 1) := ⟨k - 13 - (showF (body.length : Int)).length, by omega⟩
        rw [hj, List.take_length_add_append, List.take_succ_cons, headR_at hd, if_pos (by rw [List.length_take, List.length_append, trail_len]; omega)]
  unfold kF
  rw [hh]
theorem begins_kF {b : Bs} (h : kF b = .junk) (i : Nat) : True := trivial
end Go.Fld

/- A stream in pieces: what is told of it, byte by byte; no program in sight. -/
set_option linter.unusedVariables false
set_option linter.unusedSimpArgs false
namespace Go.Fld
open Go

theorem kF_step {b : Bs} (h : kF b ≠ .need) : 0 < b.length := by
  cases b with
  | nil => exact absurd kF_nil h
  | cons => simp
/-- What is kept, told, and taken as junk. -/
def runB (b : Bs) : Bs × List Bs × Nat :=
  match h : kF b with
  | .need => (b, [], 0)
  | .junk => ((runB (b.drop 1)).1, (runB (b.drop 1)).2.1, (runB (b.drop 1)).2.2 + 1)
  | .frame s n => ((runB (b.drop (s + n + 7))).1, (b.drop s).take n :: (runB (b.drop (s + n + 7))).2.1, (runB (b.drop (s + n + 7))).2.2)
termination_by b.length
decreasing_by
  all_goals
    have := kF_step (b := b) (by rw [h]; simp)
    rw [List.length_drop]; omega
theorem runB_need {b : Bs} (h : kF b = .need) : runB b = (b, [], 0) := by
  rw [runB]; split
  · rfl
  · rename_i e; rw [h] at e; exact absurd e (by simp)
  · rename_i e; rw [h] at e; exact absurd e (by simp)
theorem runB_junk {b : Bs} (h : kF b = .junk) : runB b = ((runB (b.drop 1)).1, (runB (b.drop 1)).2.1, (runB (b.drop 1)).2.2 + 1) := by
  conv => lhs; rw [runB]
  split
  · rename_i e; rw [h] at e; exact absurd e (by simp)
  · rfl
  · rename_i e; rw [h] at e; exact absurd e (by simp)
theorem runB_frame {b : Bs} {s n : Nat} (h : kF b = .frame s n) : runB b = ((runB (b.drop (s + n + 7))).1, (b.drop s).take n :: (runB (b.drop (s + n + 7))).2.1, (runB (b.drop (s + n + 7))).2.2) := by
  conv => lhs; rw [runB]
  split
  · rename_i e; rw [h] at e; exact absurd e (by simp)
  · rename_i e; rw [h] at e; exact absurd e (by simp)
  · rename_i s' n' e
    rw [h] at e
    simp only [Hd.frame.injEq] at e
    obtain ⟨rfl, rfl⟩ := e
    rfl
/-- Induction along a stream. -/
theorem run_ind {P : Bs → Prop} (hn : ∀ b, kF b = .need → P b) (hj : ∀ b, kF b = .junk → P (b.drop 1) → P b) (hf : ∀ b s n, kF b = .frame s n → P (b.drop (s + n + 7)) → P b) (b : Bs) : P b := by
  have : ∀ k (b : Bs), b.length = k → P b := by
    intro k
    induction k using Nat.strongRecOn with
    | _ k ih =>
      intro b hb
      cases hk : kF b with
      | need => exact hn b hk
      | junk =>
        have := kF_step (b := b) (by rw [hk]; simp)
        exact hj b hk (ih _ (by rw [← hb, List.length_drop]; omega) _ rfl)
      | frame s n =>
        have := kF_step (b := b) (by rw [hk]; simp)
        exact hf b s n hk (ih _ (by rw [← hb, List.length_drop]; omega) _ rfl)
  exact this _ b rfl
theorem runB_nil : runB [] = ([], [], 0) := runB_need kF_nil
/-- Junk is taken at one go. -/
theorem runB_skip {b : Bs} (h : kF b = .junk) : runB b = ((runB (b.drop (junkF b))).1, (runB (b.drop (junkF b))).2.1, (runB (b.drop (junkF b))).2.2 + junkF b) := by
  have hb := kF_ne (b := b) (by rw [h]; simp)
  obtain ⟨h1, h2, h3, h4⟩ := junk_spec hb
  have key : ∀ i, 1 ≤ i → i ≤ junkF b → runB b = ((runB (b.drop i)).1, (runB (b.drop i)).2.1, (runB (b.drop i)).2.2 + i) := by
    intro i
    induction i with
    | zero => intro hi; omega
    | succ i ih =>
      intro _ hle
      cases i with
      | zero => exact runB_junk h
      | succ i =>
        have e := ih (by omega) (by omega)
        have hk := kF_nob (h4 (i + 1) (by omega) (by omega))
        have e2 := runB_junk hk
        rw [List.drop_drop] at e2
        rw [e, e2]
        refine Prod.ext rfl (Prod.ext rfl ?_)
        show _ + 1 + (i + 1) = _ + (i + 1 + 1)
        omega
  exact key _ h1 (Nat.le_refl _)
/-- What is told stays, whatever comes behind. -/
theorem runB_app (m : Bs) (b : Bs) : runB (b ++ m) = ((runB ((runB b).1 ++ m)).1, (runB b).2.1 ++ (runB ((runB b).1 ++ m)).2.1, (runB b).2.2 + (runB ((runB b).1 ++ m)).2.2) := by
  induction b using run_ind with
  | hn b h => rw [runB_need h]; simp
  | hj b h ih =>
    have hs := kF_stay (m := m) (b := b) (by rw [h]; simp)
    have hl := kF_step (b := b) (by rw [h]; simp)
    rw [runB_junk (b := b ++ m) (by rw [hs]; exact h), runB_junk h, List.drop_append_of_le_length (by omega), ih]
    refine Prod.ext rfl (Prod.ext rfl ?_)
    show (runB (b.drop 1)).2.2 + (runB ((runB (b.drop 1)).1 ++ m)).2.2 + 1 = (runB (b.drop 1)).2.2 + 1 + (runB ((runB (b.drop 1)).1 ++ m)).2.2
    omega
  | hf b s n h ih =>
    have hs := kF_stay (m := m) (b := b) (by rw [h]; simp)
    obtain ⟨hl, hbl, _⟩ := kF_inv h
    rw [runB_frame (b := b ++ m) (by rw [hs]; exact h), runB_frame h, List.drop_append_of_le_length (by omega), ih, List.drop_append_of_le_length (by omega), List.take_append_of_le_length (by rw [List.length_drop]; omega)]
    rfl
theorem runB_kept (b : Bs) : kF (runB b).1 = .need := by
  induction b using run_ind with
  | hn b h => rw [runB_need h]; exact h
  | hj b h ih => rw [runB_junk h]; exact ih
  | hf b s n h ih => rw [runB_frame h]; exact ih
theorem runB_again (b : Bs) : runB (runB b).1 = ((runB b).1, [], 0) := runB_need (runB_kept b)
def frLen (x : Bs) : Nat := (putB x).1.length
def frSum : List Bs → Nat
  | [] => 0
  | x :: l => frLen x + frSum l
theorem frSum_snoc (l : List Bs) (x : Bs) : frSum (l ++ [x]) = frSum l + frLen x := by
  induction l with
  | nil => simp [frSum]
  | cons y l ih => rw [List.cons_append, frSum, frSum, ih]; omega
theorem put_frame {b : Bs} {s n : Nat} (h : kF b = .frame s n) : putB ((b.drop s).take n) = (b.take (s + n + 7), 0) := by
  obtain ⟨h1, h2, h3, h4, h5, _⟩ := kF_inv h
  have := (right_len h3).2
  rw [put_ok' (by omega) h3, ← h5]
theorem put_body {x : Bs} (h : (putB x).2 = 0) : rightB x = true ∧ putB x = (preB x ++ trailF (sumF (preB x)), 0) := by
  unfold putB at h ⊢
  split at h
  · simp at h
  · rename_i h1
    split at h
    · rename_i h2; exact ⟨h2, by rw [if_neg h1, if_pos h2]⟩
    · simp at h
theorem put_no {x : Bs} (h : ¬ (putB x).2 = 0) : (putB x).1 = [] := by
  unfold putB at h ⊢
  split
  · rfl
  · rename_i h1
    rw [if_neg h1] at h
    split
    · rename_i h2; rw [if_pos h2] at h; exact absurd rfl h
    · rfl
theorem put_len_le (x : Bs) : (putB x).1.length ≤ 8040 := by
  by_cases h : (putB x).2 = 0
  · obtain ⟨h1, h2⟩ := put_body h
    have h3 := (right_len h1)
    have h4 := (HdOK.of_show h3.1 h3.2).len
    rw [h2]
    show (preB x ++ trailF (sumF (preB x))).length ≤ 8040
    rw [List.length_append, pre_len, trail_len]; omega
  · rw [put_no h]; simp
theorem runB_counts (b : Bs) : (runB b).2.2 + (runB b).1.length + frSum (runB b).2.1 = b.length ∧ ∀ x ∈ (runB b).2.1, (putB x).2 = 0 := by
  induction b using run_ind with
  | hn b h => rw [runB_need h]; simp [frSum]
  | hj b h ih =>
    have hl := kF_step (b := b) (by rw [h]; simp)
    rw [runB_junk h]
    rw [List.length_drop] at ih
    exact ⟨by have := ih.1; show (runB (b.drop 1)).2.2 + 1 + (runB (b.drop 1)).1.length + frSum (runB (b.drop 1)).2.1 = _; omega, ih.2⟩
  | hf b s n h ih =>
    obtain ⟨hl, hbl, _⟩ := kF_inv h
    have hp := put_frame h
    rw [runB_frame h]
    rw [List.length_drop] at ih
    have e : frLen ((b.drop s).take n) = s + n + 7 := by unfold frLen; rw [hp]; show (b.take _).length = _; rw [List.length_take]; omega
    refine ⟨?_, ?_⟩
    · have := ih.1
      show (runB (b.drop (s + n + 7))).2.2 + (runB (b.drop (s + n + 7))).1.length + (frLen ((b.drop s).take n) + frSum (runB (b.drop (s + n + 7))).2.1) = _
      rw [e]; omega
    · intro x hx
      rcases List.mem_cons.1 hx with rfl | hx
      · rw [hp]
      · exact ih.2 x hx
theorem runB_len (b : Bs) : (runB b).1.length ≤ b.length ∧ (runB b).2.2 ≤ b.length ∧ (runB b).2.1.length ≤ b.length := by
  have h := (runB_counts b).1
  refine ⟨by omega, by omega, ?_⟩
  have : ∀ l : List Bs, (∀ x ∈ l, (putB x).2 = 0) → l.length ≤ frSum l := by
    intro l
    induction l with
    | nil => intro _; simp
    | cons x l ih =>
      intro hx
      have h1 := put_body (hx x (by simp))
      have h2 := ih fun y hy => hx y (by simp [hy])
      have : 1 ≤ frLen x := by unfold frLen; rw [h1.2]; show 1 ≤ (_ ++ _ : Bs).length; rw [List.length_append, trail_len]; omega
      rw [List.length_cons, frSum]; omega
  have := this _ (runB_counts b).2
  omega
/-- Bytes of which none is an 8. -/
theorem junk_no8 {a : Bs} (h : (56 : UInt8) ∉ a) : runB a = ([], [], a.length) := by
  induction a with
  | nil => exact runB_nil
  | cons c l ih =>
    have hc : c ≠ 56 := fun e => h (by simp [e])
    rw [runB_junk (kF_nob (begins_head hc)), List.drop_succ_cons, List.drop_zero, ih (fun e => h (by simp [e]))]
    rfl
theorem kF_no8 {a m : Bs} (h : (56 : UInt8) ∉ a) (ha : a ≠ []) : kF (a ++ m) = .junk := by
  cases a with
  | nil => exact absurd rfl ha
  | cons c l => exact kF_nob (begins_head (fun e => h (by simp [e])))
theorem junkF_no8 {a m : Bs} (h : (56 : UInt8) ∉ a) (ha : a ≠ []) (hm : begins m = true) : junkF (a ++ m) = a.length := by
  apply junk_eq
  · cases a with
    | nil => exact absurd rfl ha
    | cons => simp
  · rw [List.length_append]; omega
  · rw [List.drop_left]; exact hm
  · intro i h1 h2
    rw [List.drop_append_of_le_length (by omega)]
    cases hd : a.drop i with
    | nil => have := congrArg List.length hd; rw [List.length_drop, List.length_nil] at this; omega
    | cons c l =>
      exact begins_head (fun e => h (by have : c ∈ a.drop i := by rw [hd]; simp
                                        rw [← e]; exact List.mem_of_mem_drop this))
theorem begins_put {x : Bs} (h : (putB x).2 = 0) (m : Bs) : begins ((putB x).1 ++ m) = true := by
  rw [(put_body h).2]
  show begins ((preB x ++ _) ++ m) = true
  rw [show preB x ++ trailF (sumF (preB x)) ++ m = beg ++ (showF (x.length : Int) ++ [1] ++ x ++ trailF (sumF (preB x)) ++ m) by unfold preB; simp]
  exact begins_app _
theorem next_put {x : Bs} (h : (putB x).2 = 0) (m : Bs) : nextB ((putB x).1 ++ m) = (1, x, ((putB x).1.length : Int)) := by
  obtain ⟨h1, h2⟩ := put_body h
  rw [h2]
  obtain ⟨h3, h4, h5⟩ := kF_at (m := m) h1
  have := nextB_frame h3
  rw [h4, h5] at this
  exact this
theorem run_put {x : Bs} (h : (putB x).2 = 0) (m : Bs) : runB ((putB x).1 ++ m) = ((runB m).1, x :: (runB m).2.1, (runB m).2.2) := by
  obtain ⟨h1, h2⟩ := put_body h
  rw [h2]
  obtain ⟨h3, h4, h5⟩ := kF_at (m := m) h1
  have := runB_frame h3
  rw [h4, h5, List.drop_left] at this
  exact this
theorem next_part {x : Bs} {k : Nat} (h : (putB x).2 = 0) (hk : k < (putB x).1.length) : nextB ((putB x).1.take k) = (0, [], 0) ∧ kF ((putB x).1.take k) = .need := by
  obtain ⟨h1, h2⟩ := put_body h
  rw [h2] at hk ⊢
  exact ⟨nextB_need (kF_part h1 hk), kF_part h1 hk⟩
theorem next_junk {a m : Bs} (h : (56 : UInt8) ∉ a) (ha : a ≠ []) (hm : begins m = true) : nextB (a ++ m) = (2, [], (a.length : Int)) := by
  rw [nextB_junk (kF_no8 h ha), junkF_no8 h ha hm]
/-- What Next may tell. -/
theorem next_cases (b : Bs) : (kF b = .need ∧ nextB b = (0, [], 0)) ∨ (kF b = .junk ∧ nextB b = (2, [], ((junkF b : Nat) : Int)) ∧ 1 ≤ junkF b ∧ junkF b ≤ b.length) ∨
    ∃ s n, kF b = .frame s n ∧ nextB b = (1, (b.drop s).take n, ((s + n + 7 : Nat) : Int)) ∧ s + n + 7 ≤ b.length ∧ putB ((b.drop s).take n) = (b.take (s + n + 7), 0) ∧ ((b.drop s).take n).length = n := by
  cases h : kF b with
  | need => exact .inl ⟨rfl, nextB_need h⟩
  | junk =>
    have := junk_spec (kF_ne (b := b) (by rw [h]; simp))
    exact .inr (.inl ⟨rfl, nextB_junk h, this.1, this.2.1⟩)
  | frame s n => exact .inr (.inr ⟨s, n, rfl, nextB_frame h, (kF_inv h).1, put_frame h, (kF_inv h).2.1⟩)
/-! ### the feed -/
def inB (kept piece : Bs) : Bs × List Bs × Int × Int :=
  if 16384 ≤ kept.length ∨ 65536 < piece.length then (kept, [], 0, 4) else ((runB (kept ++ piece)).1, (runB (kept ++ piece)).2.1, (((runB (kept ++ piece)).2.2 : Nat) : Int), 0)
theorem inB_long {kept piece : Bs} (h : 16384 ≤ kept.length ∨ 65536 < piece.length) : inB kept piece = (kept, [], 0, 4) := by unfold inB; rw [if_pos h]
theorem inB_ok {kept piece : Bs} (h : ¬ (16384 ≤ kept.length ∨ 65536 < piece.length)) : inB kept piece = ((runB (kept ++ piece)).1, (runB (kept ++ piece)).2.1, (((runB (kept ++ piece)).2.2 : Nat) : Int), 0) := by unfold inB; rw [if_neg h]
end Go.Fld

/- Frames: what a reader of the head knows at each byte; no program in sight. -/
set_option linter.unusedVariables false
set_option linter.unusedSimpArgs false
namespace Go.Fld
open Go

theorem begins_min (b : Bs) : decide (b.take (min (b.length : Int) 12).toNat = beg.take (min (b.length : Int) 12).toNat) = begins b := by
  unfold begins
  by_cases h : b.length ≤ 12
  · have e : (min (b.length : Int) 12).toNat = b.length := by omega
    rw [e, List.take_of_length_le (i := 12) h, List.take_length]
  · have e : (min (b.length : Int) 12).toNat = 12 := by omega
    rw [e, List.take_of_length_le (l := beg) (i := 12) (by rw [beg_len]; omega), List.take_of_length_le (l := beg) (by rw [beg_len]; omega)]

/-! ### the head, digit by digit -/
theorem dig_iff {c : UInt8} : isDig c = true ↔ (48 : Int) ≤ (c.toNat : Int) ∧ (c.toNat : Int) ≤ 57 := by
  unfold isDig; rw [Bool.and_eq_true, decide_eq_true_eq, decide_eq_true_eq]; omega
theorem nodig_iff {c : UInt8} : isDig c = false ↔ ¬ (48 : Int) ≤ (c.toNat : Int) ∨ ¬ (c.toNat : Int) ≤ 57 := by
  rw [Bool.eq_false_iff, ne_eq, dig_iff]; omega
theorem take_snoc {α : Type} {r : List α} {j : Nat} {c : α} (h : r[j]? = some c) : r.take (j + 1) = r.take j ++ [c] := take_next h
theorem dv_snoc {r : Bs} {j : Nat} {c : UInt8} (h : r[j]? = some c) : decVal 0 (r.take (j + 1)) = decVal 0 (r.take j) * 10 + (c.toNat - 48) := val_next h
theorem dv_wrap {r : Bs} {j : Nat} {c : UInt8} (hb : r[j]? = some c) (h1 : (48 : Int) ≤ (c.toNat : Int)) (h2 : (c.toNat : Int) ≤ 57) (hle : decVal 0 (r.take j) ≤ 1000000) :
    IntKind.i64.wrap (IntKind.i64.wrap ((decVal 0 (r.take j) : Nat) * 10) + IntKind.i64.wrap (IntKind.u8.wrap ((c.toNat : Int) - 48))) = ((decVal 0 (r.take (j + 1)) : Nat) : Int) := by
  rw [dv_snoc hb]
  generalize decVal 0 (r.take j) = v at *
  have e1 : IntKind.i64.wrap ((v : Int) * 10) = (v : Int) * 10 := by rw [IntKind.wrap_i64]; omega
  have e2 : IntKind.u8.wrap ((c.toNat : Int) - 48) = (c.toNat : Int) - 48 := by rw [IntKind.wrap_u8]; omega
  have e3 : IntKind.i64.wrap ((c.toNat : Int) - 48) = (c.toNat : Int) - 48 := by rw [IntKind.wrap_i64]; omega
  rw [e1, e2, e3, IntKind.wrap_i64]; omega
theorem all_snoc {r : Bs} {j : Nat} {c : UInt8} (hb : r[j]? = some c) (h : (r.take j).all isDig = true) (h1 : (48 : Int) ≤ (c.toNat : Int)) (h2 : (c.toNat : Int) ≤ 57) : (r.take (j + 1)).all isDig = true := by
  rw [take_snoc hb, List.all_append, h, List.all_cons, dig_iff.2 ⟨h1, h2⟩]; rfl
def HP (r : Bs) (j : Nat) : Prop := j ≤ r.length ∧ (j = 0 ∨ HdOK (r.take j) (decVal 0 (r.take j)))
theorem HP.zero {r : Bs} : HP r 0 := ⟨Nat.zero_le _, .inl rfl⟩
theorem HP.le {r : Bs} {j : Nat} (h : HP r j) : decVal 0 (r.take j) ≤ 8000 ∧ j ≤ 4 := by
  rcases h.2 with rfl | h'
  · rw [List.take_zero, decVal_nil]; exact ⟨by omega, by omega⟩
  · have h1 := h'.len.1
    rw [List.length_take] at h1
    have := h.1
    exact ⟨h'.le, by omega⟩
theorem HP.dig {r : Bs} {j : Nat} (h : HP r j) : (r.take j).all isDig = true := by
  rcases h.2 with rfl | h'
  · rfl
  · exact h'.dig
theorem HP.pos {r : Bs} {j : Nat} (h : HP r j) (hj : ¬ (decVal 0 (r.take j) = 0)) : HdOK (r.take j) (decVal 0 (r.take j)) := by
  rcases h.2 with rfl | h'
  · rw [List.take_zero, decVal_nil] at hj; exact absurd rfl hj
  · exact h'
theorem HP.pos' {r : Bs} {j : Nat} (h : HP r j) (hj : j ≠ 0) : HdOK (r.take j) (decVal 0 (r.take j)) := by
  rcases h.2 with rfl | h'
  · exact absurd rfl hj
  · exact h'
theorem HP.zero_of {r : Bs} {j : Nat} (h : HP r j) (hj : decVal 0 (r.take j) = 0) : j = 0 := by
  rcases h.2 with rfl | h'
  · rfl
  · have := h'.len; omega
theorem head_take {r : Bs} {j : Nat} (hj : j ≠ 0) : (r.take j).head? = r.head? := by
  cases r with
  | nil => simp
  | cons c r => cases j with
    | zero => exact absurd rfl hj
    | succ j => rfl
theorem HP.next {r : Bs} {j : Nat} {c : UInt8} (h : HP r j) (hb : r[j]? = some c) (h1 : (48 : Int) ≤ (c.toNat : Int)) (h2 : (c.toNat : Int) ≤ 57) (g1 : ¬ ((decVal 0 (r.take (j + 1)) : Nat) : Int) < 1) (g2 : ¬ (8000 : Int) < ((decVal 0 (r.take (j + 1)) : Nat) : Int)) : HP r (j + 1) := by
  refine ⟨get_lt hb, .inr ⟨all_snoc hb h.dig h1 h2, ?_, ?_, rfl, by omega⟩⟩
  · intro e; have := congrArg List.length e; rw [List.length_take, List.length_nil] at this; have := get_lt hb; omega
  · rw [head_take (by omega)]
    rcases h.2 with rfl | h'
    · rw [dv_snoc hb, List.take_zero, decVal_nil] at g1
      cases r with
      | nil => simp
      | cons d r =>
        simp only [List.getElem?_cons_zero, Option.some.injEq] at hb
        subst hb
        simp only [List.head?_cons, ne_eq, Option.some.injEq]
        intro e; subst e; exact g1 (by decide)
    · have := h'.lead
      rw [head_take] at this
      · exact this
      · intro e; subst e; exact h'.ne (List.take_zero)
theorem tw_ext {r : Bs} {j : Nat} (h : (r.take j).all isDig = true) : r.takeWhile isDig = r.take j ++ (r.drop j).takeWhile isDig := by
  conv => lhs; rw [← List.take_append_drop j r]
  exact tw_app h
theorem tw_stop {r : Bs} {j : Nat} (h : (r.take j).all isDig = true) (hs : j = r.length ∨ ∃ c, r[j]? = some c ∧ isDig c = false) : r.takeWhile isDig = r.take j := by
  rw [tw_ext h]
  rcases hs with rfl | ⟨c, hc, hd⟩
  · simp
  · rw [drop_at hc, List.takeWhile_cons, hd]; simp
/-- Digits that no number of a frame begins with. -/
theorem headR_bad {r : Bs} {j : Nat} (hj : j ≠ 0) (h : (r.take j).all isDig = true) (g : r.head? = some 48 ∨ 8000 < decVal 0 (r.take j)) : headR r = .junk := by
  unfold headR
  rw [if_pos]
  rw [tw_ext h]
  rcases g with g | g
  · left
    rw [← head_take hj] at g
    cases hx : r.take j with
    | nil => rw [hx] at g; simp at g
    | cons d l => rw [hx] at g; simpa using g
  · right; have := dec_mono (r.take j) ((r.drop j).takeWhile isDig); omega
theorem HP.bad {r : Bs} {j : Nat} {c : UInt8} (h : HP r j) (hb : r[j]? = some c) (h1 : (48 : Int) ≤ (c.toNat : Int)) (h2 : (c.toNat : Int) ≤ 57) (g : ((decVal 0 (r.take (j + 1)) : Nat) : Int) < 1 ∨ (8000 : Int) < ((decVal 0 (r.take (j + 1)) : Nat) : Int)) : headR r = .junk := by
  refine headR_bad (j := j + 1) (by omega) (all_snoc hb h.dig h1 h2) ?_
  rcases g with g | g
  · left
    rw [dv_snoc hb] at g
    rcases h.2 with rfl | h'
    · rw [List.take_zero, decVal_nil] at g
      cases r with
      | nil => simp at hb
      | cons d r =>
        simp only [List.getElem?_cons_zero, Option.some.injEq] at hb
        subst hb
        have : d = 48 := UInt8.toNat_inj.1 (by show d.toNat = 48; omega)
        rw [this]; rfl
    · have := h'.len; omega
  · right; omega
theorem HP.tw {r : Bs} {j : Nat} (h : HP r j) (hs : j = r.length ∨ ∃ c, r[j]? = some c ∧ isDig c = false) : headR r = match r.drop j with
    | [] => .need
    | c :: rest => if c ≠ 1 ∨ j = 0 then .junk else if rest.length < decVal 0 (r.take j) + 7 then .need else .frame (13 + j) (decVal 0 (r.take j)) := by
  have ht := tw_stop h.dig hs
  have hl : (r.take j).length = j := by rw [List.length_take]; have := h.1; omega
  have hne : r.take j = [] ↔ j = 0 := by
    constructor
    · intro e; rw [e] at hl; simpa using hl.symm
    · rintro rfl; rfl
  unfold headR
  rw [ht, hl, if_neg]
  · cases hd : r.drop j with
    | nil => rfl
    | cons c rest =>
      simp only
      by_cases hj : c ≠ 1 ∨ j = 0
      · rw [if_pos hj, if_pos (by rw [hne]; exact hj)]
      · rw [if_neg hj, if_neg (by rw [hne]; exact hj)]
  · rintro (e | e)
    · rcases h.2 with rfl | h'
      · simp at e
      · exact h'.lead e
    · have := h.le; omega
theorem HP.atEnd {r : Bs} {j : Nat} (h : HP r j) (he : j = r.length) : headR r = .need := by
  rw [h.tw (.inl he)]
  rw [he, List.drop_length]
theorem HP.no {r : Bs} {j : Nat} {c : UInt8} (h : HP r j) (hb : r[j]? = some c) (hd : isDig c = false) (hc : c ≠ 1 ∨ j = 0) : headR r = .junk := by
  rw [h.tw (.inr ⟨c, hb, hd⟩), drop_at hb]
  simp only
  rw [if_pos hc]
theorem HP.less {r : Bs} {j : Nat} (h : HP r j) (hb : r[j]? = some 1) (hj : j ≠ 0) (hl : r.length < j + 1 + decVal 0 (r.take j) + 7) : headR r = .need := by
  rw [h.tw (.inr ⟨1, hb, one_nodig⟩), drop_at hb]
  simp only
  rw [if_neg (by rintro (e | e); exact e rfl; exact hj e), if_pos (by rw [List.length_drop]; have := get_lt hb; omega)]
theorem HP.full {r : Bs} {j : Nat} (h : HP r j) (hb : r[j]? = some 1) (hj : j ≠ 0) (hl : ¬ r.length < j + 1 + decVal 0 (r.take j) + 7) : headR r = .frame (13 + j) (decVal 0 (r.take j)) := by
  rw [h.tw (.inr ⟨1, hb, one_nodig⟩), drop_at hb]
  simp only
  rw [if_neg (by rintro (e | e); exact e rfl; exact hj e), if_neg (by rw [List.length_drop]; have := get_lt hb; omega)]
theorem headF_r {b : Bs} (h : begins b = true) (h2 : ¬ b.length < 12) : headF b = headR (b.drop 12) := by
  unfold headF; rw [if_neg (by rw [h]; simp), if_neg h2]
theorem headF_nb {b : Bs} (h : begins b = false) : headF b = .junk := by unfold headF; rw [if_pos h]
theorem headF_sh {b : Bs} (h : begins b = true) (h2 : b.length < 12) : headF b = .need := by unfold headF; rw [if_neg (by rw [h]; simp), if_pos h2]
theorem get12 {b : Bs} {j : Nat} : (b.drop 12)[j]? = b[12 + j]? := List.getElem?_drop
/-- Five digits are too many. -/
theorem five {r : Bs} {c : UInt8} (h : HP r 4) (hb : r[4]? = some c) (hd : isDig c = true) : headR r = .junk := by
  have h5 := h.pos' (by omega)
  have hd' := dig_iff.1 hd
  refine headR_bad (j := 5) (by omega) (all_snoc hb h.dig hd'.1 hd'.2) (.inr ?_)
  rw [dv_snoc (j := 4) hb]
  have h1 := h5.dig
  have h3 := h5.lead
  have hl : (r.take 4).length = 4 := by rw [List.length_take]; have := h.1; omega
  cases hx : r.take 4 with
  | nil => rw [hx] at hl; simp at hl
  | cons d l =>
    rw [hx] at h1 h3 hl
    rw [List.all_cons, Bool.and_eq_true] at h1
    have := decVal_lead (l := l) h1.1 (by simpa using h3)
    rw [show l.length = 3 by simpa using hl] at this
    omega
theorem HP.of {r : Bs} {j : Nat} (hj : j ≤ r.length) (hd : (r.take j).all isDig = true) (g : j = 0 ∨ (r.head? ≠ some 48 ∧ decVal 0 (r.take j) ≤ 8000)) : HP r j := by
  refine ⟨hj, ?_⟩
  rcases g with g | ⟨g1, g2⟩
  · exact .inl g
  · rcases Nat.eq_zero_or_pos j with h0 | h0
    · exact .inl h0
    · refine .inr ⟨hd, ?_, by rw [head_take (by omega)]; exact g1, rfl, g2⟩
      intro e; have := congrArg List.length e; rw [List.length_take, List.length_nil] at this; omega
/-- The next byte is no 1: there is no frame, whatever it is. -/
theorem HP.no' {r : Bs} {j : Nat} {c : UInt8} (h : HP r j) (hb : r[j]? = some c) (hd : j = 4 ∨ isDig c = false) (hc : c ≠ 1) : headR r = .junk := by
  cases hx : isDig c with
  | false => exact h.no hb hx (.inl hc)
  | true =>
    rcases hd with rfl | hd
    · exact five h hb hx
    · rw [hd] at hx; simp at hx
/-! ### what is compared -/
theorem kF_put {b : Bs} {s n : Nat} (h : headF b = .frame s n) : s + n + 7 ≤ b.length ∧ ((b.drop s).take n).length = n ∧ n ≤ 8000 ∧
    ((kF b = .frame s n ∧ putB ((b.drop s).take n) = (b.take (s + n + 7), 0)) ∨ (kF b = .junk ∧ ((putB ((b.drop s).take n)).2 = 0 → ¬ (putB ((b.drop s).take n)).1 = b.take (s + n + 7)))) := by
  obtain ⟨ds, rest, hb, hd, hl, hs⟩ := headF_inv h
  have hlen : b.length = 13 + ds.length + rest.length := by rw [hb]; simp only [List.length_append, List.length_cons, beg_len]; omega
  have hbl : ((b.drop s).take n).length = n := by rw [List.length_take, List.length_drop]; omega
  refine ⟨by omega, hbl, hd.le, ?_⟩
  by_cases hc : (b.drop (s + n)).take 7 = trailF (sumF (b.take (s + n))) ∧ rightB ((b.drop s).take n) = true
  · have hk : kF b = .frame s n := by unfold kF; rw [h]; simp only; rw [if_pos hc]
    exact .inl ⟨hk, put_frame hk⟩
  · have hk : kF b = .junk := by unfold kF; rw [h]; simp only; rw [if_neg hc]
    refine .inr ⟨hk, fun h0 he => hc ?_⟩
    obtain ⟨hr, hp⟩ := put_body h0
    rw [hp] at he
    have he : preB ((b.drop s).take n) ++ trailF (sumF (preB ((b.drop s).take n))) = b.take (s + n + 7) := he
    have hpl : (preB ((b.drop s).take n)).length = s + n := by rw [pre_len, hbl, hd.show]; omega
    have e1 : b.take (s + n) = preB ((b.drop s).take n) := by
      have := congrArg (List.take (s + n)) he
      rw [List.take_left' hpl, List.take_take, show min (s + n) (s + n + 7) = s + n by omega] at this
      exact this.symm
    refine ⟨?_, hr⟩
    have := congrArg (List.drop (s + n)) he
    rw [List.drop_left' hpl, List.drop_take, show s + n + 7 - (s + n) = 7 by omega] at this
    rw [e1]; exact this.symm
theorem kF_cmp {b : Bs} {s n : Nat} (h : headF b = .frame s n) : (decide ((b.drop (s + n)).take 7 = trailF (sumF (b.take (s + n)))) = true → rightB ((b.drop s).take n) = true → kF b = .frame s n) ∧
    ((decide ((b.drop (s + n)).take 7 = trailF (sumF (b.take (s + n)))) = false ∨ rightB ((b.drop s).take n) = false) → kF b = .junk) := by
  refine ⟨fun h1 h2 => ?_, fun h1 => ?_⟩
  · unfold kF; rw [h]; simp only; rw [if_pos ⟨of_decide_eq_true h1, h2⟩]
  · unfold kF; rw [h]; simp only
    rw [if_neg]
    rintro ⟨e1, e2⟩
    rcases h1 with h1 | h1
    · exact of_decide_eq_false h1 e1
    · rw [e2] at h1; simp at h1
theorem kF_hj {b : Bs} (h : headF b = .junk) : kF b = .junk := by unfold kF; rw [h]
theorem kF_hn {b : Bs} (h : headF b = .need) : kF b = .need := by unfold kF; rw [h]
/-! ### the reference's look at the beginning -/
def BP (b : Bs) (a i : Nat) : Prop := i ≤ 12 ∧ (b.drop a).take i = beg.take i ∧ i ≤ (b.drop a).length
theorem BP.next {b : Bs} {a i : Nat} {c : UInt8} (h : BP b a i) (hb : b[a + i]? = some c) (hc : beg[i]? = some c) : BP b a (i + 1) := by
  have hb' : (b.drop a)[i]? = some c := by rw [List.getElem?_drop]; exact hb
  refine ⟨by have := get_lt hc; rw [beg_len] at this; omega, ?_, get_lt hb'⟩
  rw [take_next hb', take_next hc, h.2.1]
theorem BP.no {b : Bs} {a i : Nat} {c d : UInt8} (h : BP b a i) (hb : b[a + i]? = some c) (hc : beg[i]? = some d) (hne : c ≠ d) : begins (b.drop a) = false := by
  rw [Bool.eq_false_iff]; intro e
  rw [begins_iff] at e
  have hb' : (b.drop a)[i]? = some c := by rw [List.getElem?_drop]; exact hb
  have hlt := get_lt hb'
  have hi := get_lt hc
  rw [beg_len] at hi
  have := congrArg (fun l => l[i]?) e
  simp only [List.getElem?_take] at this
  rw [if_pos hi, if_pos hlt, hb', hc] at this
  exact hne (Option.some.inj this)
theorem BP.yes {b : Bs} {a i : Nat} (h : BP b a i) (he : i = 12 ∨ i = (b.drop a).length) : begins (b.drop a) = true := by
  rw [begins_iff]
  rcases he with rfl | he
  · rw [h.2.1, List.take_of_length_le (l := beg) (i := 12) (by rw [beg_len]; omega), List.take_of_length_le (by rw [beg_len]; exact h.2.2)]
  · have := h.2.1
    rw [he, List.take_length] at this
    rw [List.take_of_length_le (by rw [← he]; exact h.1)]; exact this
end Go.Fld
