/- Plain facts on lists of fields: what is put is read as it was. -/
import Derived.Test.YtobaignbahnjbaaDoorFldP
set_option linter.unusedVariables false
set_option linter.unusedSimpArgs false
namespace Go.Fld
open Go

/-- What stands ahead of the first c, and behind it. -/
def cutB (c : UInt8) : Bs → Option (Bs × Bs)
  | [] => none
  | x :: l => if x = c then some ([], l) else (cutB c l).map fun p => (x :: p.1, p.2)

theorem cutB_none {c : UInt8} : ∀ {l : Bs}, cutB c l = none ↔ c ∉ l
  | [] => by simp [cutB]
  | x :: l => by
    simp only [cutB]
    split
    · rename_i h; subst h; simp
    · rename_i h
      simp only [Option.map_eq_none_iff, cutB_none (l := l), List.mem_cons, not_or]
      exact ⟨fun h' => ⟨fun e => h e.symm, h'⟩, fun h' => h'.2⟩
theorem cutB_some {c : UInt8} : ∀ {l a b : Bs}, cutB c l = some (a, b) ↔ (l = a ++ c :: b ∧ c ∉ a)
  | [], a, b => by simp [cutB]
  | x :: l, a, b => by
    simp only [cutB]
    split
    · rename_i h; subst h
      constructor
      · intro e; simp only [Option.some.injEq, Prod.mk.injEq] at e; obtain ⟨rfl, rfl⟩ := e; simp
      · rintro ⟨e, hn⟩
        cases a with
        | nil => simp at e; simp [e]
        | cons y a => simp at e; obtain ⟨rfl, _⟩ := e; simp at hn
    · rename_i h
      constructor
      · intro e
        simp only [Option.map_eq_some_iff, Prod.mk.injEq, Prod.exists] at e
        obtain ⟨a', b', h1, rfl, rfl⟩ := e
        obtain ⟨h2, h3⟩ := cutB_some.1 h1
        refine ⟨by rw [h2]; rfl, ?_⟩
        simp only [List.mem_cons, not_or]
        exact ⟨fun e => h e.symm, h3⟩
      · rintro ⟨e, hn⟩
        cases a with
        | nil => simp at e; exact absurd e.1 h
        | cons y a =>
          simp only [List.cons_append, List.cons.injEq] at e
          obtain ⟨rfl, e⟩ := e
          simp only [List.mem_cons, not_or] at hn
          rw [cutB_some.2 ⟨e, hn.2⟩]; rfl
theorem cutB_at {c : UInt8} {a : Bs} (b : Bs) (h : c ∉ a) : cutB c (a ++ c :: b) = some (a, b) := cutB_some.2 ⟨rfl, h⟩
theorem index_cut {c : UInt8} : ∀ {l : Bs}, Lib.indexByte l c = match cutB c l with | none => -1 | some p => (p.1.length : Int)
  | [] => rfl
  | x :: l => by
    simp only [Lib.indexByte, cutB]
    by_cases h : x = c
    · subst h; simp
    · have h' : (x == c) = false := by simpa using h
      rw [if_neg h, h', index_cut (l := l)]
      cases cutB c l with
      | none => simp
      | some p => simp
theorem cutB_len {c : UInt8} {l a b : Bs} (h : cutB c l = some (a, b)) : b.length < l.length := by
  obtain ⟨h1, _⟩ := cutB_some.1 h
  rw [h1]; simp; omega

abbrev Fd := Int × Bs
def rightF (f : Fd) : Bool := decide (1 ≤ f.1) && decide (f.1 ≤ 9999) && decide (1 ≤ f.2.length) && decide (f.2.length ≤ 256) && decide ((1 : UInt8) ∉ f.2)
def encF (f : Fd) : Bs := showF f.1 ++ 61 :: (f.2 ++ [1])
def encL : List Fd → Bs
  | [] => []
  | f :: l => encF f ++ encL l
def putF (l : List Fd) : Bs × Int := if 100 < l.length then ([], 4) else if l.all rightF = true then (encL l, 0) else ([], 1)
def readF (t : Bs) : Option Fd :=
  match cutB 61 t with
  | none => none
  | some (a, v) => if (parseF a).2 = 0 ∧ 1 ≤ (parseF a).1 ∧ (parseF a).1 ≤ 9999 ∧ rightF ((parseF a).1, v) = true then some ((parseF a).1, v) else none
def parseGo (acc : List Fd) (b : Bs) : List Fd × Int :=
  if b = [] then (acc, 0)
  else match h : cutB 1 b with
    | none => ([], 2)
    | some (t, r) => match readF t with
      | none => ([], 3)
      | some f => if acc.length = 100 then ([], 4) else parseGo (acc ++ [f]) r
termination_by b.length
decreasing_by exact cutB_len h
def parseL (b : Bs) : List Fd × Int := if 65536 < b.length then ([], 4) else parseGo [] b

theorem parseGo_nil {acc : List Fd} : parseGo acc [] = (acc, 0) := by rw [parseGo]; simp
theorem parseGo_short {acc : List Fd} {b : Bs} (h : b ≠ []) (hc : cutB 1 b = none) : parseGo acc b = ([], 2) := by
  rw [parseGo, if_neg h]
  split
  · rfl
  · rename_i h2; rw [hc] at h2; simp at h2
theorem parseGo_cut {acc : List Fd} {b t r : Bs} (hc : cutB 1 b = some (t, r)) : parseGo acc b = match readF t with
      | none => ([], 3)
      | some f => if acc.length = 100 then ([], 4) else parseGo (acc ++ [f]) r := by
  have h : b ≠ [] := by rintro rfl; simp [cutB] at hc
  rw [parseGo, if_neg h]
  split
  · rename_i h2; rw [hc] at h2; simp at h2
  · rename_i t' r' h2; rw [hc] at h2; simp only [Option.some.injEq, Prod.mk.injEq] at h2; obtain ⟨rfl, rfl⟩ := h2; rfl

theorem show_bytes {n : Int} (h1 : 1 ≤ n) (h2 : n ≤ 9999) : numOK n = true ∧ showF n = Lib.decDigits n.toNat ∧ (1 : UInt8) ∉ showF n ∧ (61 : UInt8) ∉ showF n ∧ (showF n).length ≤ 4 := by
  have hok : numOK n = true := by simp only [numOK, Bool.and_eq_true, decide_eq_true_eq]; omega
  have e : showF n = Lib.decDigits n.toNat := by rw [showF, if_pos hok, Lib.itoa, if_neg (by omega)]
  have hd := decDigits_dig n.toNat
  rw [List.all_eq_true] at hd
  refine ⟨hok, e, ?_, ?_, ?_⟩
  · rw [e]; intro hm; have := hd _ hm; simp [isDig] at this
  · rw [e]; intro hm; have := hd _ hm; simp [isDig] at this
  · rw [e]; exact dec_len (by omega) (by omega)

theorem rightF_iff {f : Fd} : rightF f = true ↔ 1 ≤ f.1 ∧ f.1 ≤ 9999 ∧ 1 ≤ f.2.length ∧ f.2.length ≤ 256 ∧ (1 : UInt8) ∉ f.2 := by
  simp only [rightF, Bool.and_eq_true, decide_eq_true_eq, and_assoc]

theorem read_enc {f : Fd} (h : rightF f = true) : readF (showF f.1 ++ 61 :: f.2) = some f := by
  have h' := rightF_iff.1 h
  obtain ⟨hok, _, _, h61, _⟩ := show_bytes h'.1 h'.2.1
  unfold readF
  rw [cutB_at _ h61]
  simp only [parse_show hok]
  rw [if_pos (by simp [h'.1, h'.2.1, h])]
theorem read_inv {t : Bs} {f : Fd} (h : readF t = some f) : rightF f = true ∧ t = showF f.1 ++ 61 :: f.2 := by
  unfold readF at h
  split at h
  · simp at h
  · rename_i a v hc
    split at h
    · rename_i hh
      simp only [Option.some.injEq] at h
      subst h
      obtain ⟨e, _⟩ := cutB_some.1 hc
      have : parseF a = ((parseF a).1, 0) := by rw [← hh.1]
      obtain ⟨_, h2⟩ := show_parse this
      refine ⟨hh.2.2.2, ?_⟩
      simp only [h2]; exact e
    · simp at h
theorem enc_no1 {f : Fd} (h : rightF f = true) : (1 : UInt8) ∉ showF f.1 ++ 61 :: f.2 := by
  have h' := rightF_iff.1 h
  obtain ⟨_, _, h1, _, _⟩ := show_bytes h'.1 h'.2.1
  simp only [List.mem_append, List.mem_cons, not_or]
  exact ⟨h1, by decide, h'.2.2.2.2⟩
theorem encF_eq (f : Fd) (r : Bs) : encF f ++ r = (showF f.1 ++ 61 :: f.2) ++ 1 :: r := by simp [encF]

theorem parse_enc : ∀ (l : List Fd) (acc : List Fd) (r : Bs), l.all rightF = true → acc.length + l.length ≤ 100 → parseGo acc (encL l ++ r) = parseGo (acc ++ l) r
  | [], acc, r, _, _ => by simp [encL]
  | f :: l, acc, r, h, hl => by
    simp only [List.all_cons, Bool.and_eq_true] at h
    simp only [List.length_cons] at hl
    have e : encL (f :: l) ++ r = (showF f.1 ++ 61 :: f.2) ++ 1 :: (encL l ++ r) := by
      show (encF f ++ encL l) ++ r = _
      rw [List.append_assoc, encF_eq]
    rw [e, parseGo_cut (cutB_at _ (enc_no1 h.1)), read_enc h.1]
    simp only
    rw [if_neg (by omega), parse_enc l (acc ++ [f]) r h.2 (by simp; omega)]
    simp
theorem parse_inv : ∀ (n : Nat) (b : Bs) (acc m : List Fd), b.length ≤ n → acc.length ≤ 100 → parseGo acc b = (m, 0) → ∃ l, m = acc ++ l ∧ b = encL l ∧ l.all rightF = true ∧ m.length ≤ 100 := by
  intro n
  induction n with
  | zero =>
    intro b acc m hn ha h
    have : b = [] := List.eq_nil_of_length_eq_zero (by omega)
    subst this
    rw [parseGo_nil] at h
    simp only [Prod.mk.injEq, and_true] at h; subst h
    exact ⟨[], by simp, rfl, rfl, ha⟩
  | succ n ih =>
    intro b acc m hn ha h
    by_cases hb : b = []
    · subst hb
      rw [parseGo_nil] at h
      simp only [Prod.mk.injEq, and_true] at h; subst h
      exact ⟨[], by simp, rfl, rfl, ha⟩
    cases hc : cutB 1 b with
    | none => rw [parseGo_short hb hc] at h; simp at h
    | some p =>
      obtain ⟨t, r⟩ := p
      rw [parseGo_cut hc] at h
      cases hr : readF t with
      | none => rw [hr] at h; simp at h
      | some f =>
        rw [hr] at h
        simp only at h
        split at h
        · simp at h
        · rename_i h100
          have hlt := cutB_len hc
          obtain ⟨l, h1, h2, h3, h4⟩ := ih r (acc ++ [f]) m (by omega) (by simp; omega) h
          obtain ⟨h5, h6⟩ := read_inv hr
          refine ⟨f :: l, by rw [h1]; simp, ?_, by simp [h5, h3], h4⟩
          rw [(cutB_some.1 hc).1, h6, h2]
          show _ = encF f ++ encL l
          rw [encF_eq]
theorem parseGo_err : ∀ (n : Nat) (b : Bs) (acc : List Fd), b.length ≤ n → (parseGo acc b).2 ≠ 0 → (parseGo acc b).1 = [] := by
  intro n
  induction n with
  | zero =>
    intro b acc hn h
    have : b = [] := List.eq_nil_of_length_eq_zero (by omega)
    subst this
    rw [parseGo_nil] at h; simp at h
  | succ n ih =>
    intro b acc hn h
    by_cases hb : b = []
    · subst hb; rw [parseGo_nil] at h; simp at h
    cases hc : cutB 1 b with
    | none => rw [parseGo_short hb hc]
    | some p =>
      obtain ⟨t, r⟩ := p
      rw [parseGo_cut hc] at h ⊢
      cases hr : readF t with
      | none => rfl
      | some f =>
        rw [hr] at h
        simp only at h ⊢
        split
        · rfl
        · rename_i h100
          rw [if_neg h100] at h
          exact ih r _ (by have := cutB_len hc; omega) h

theorem parse_put {a b : List Fd} (ha : a.all rightF = true) (hb : b.all rightF = true) (h : a.length + b.length ≤ 100) (hs : (encL a ++ encL b).length ≤ 65536) : parseL (encL a ++ encL b) = (a ++ b, 0) := by
  rw [parseL, if_neg (by omega), parse_enc a [] _ ha (by simp; omega)]
  have := parse_enc b a [] hb h
  simp only [List.append_nil] at this
  simp only [List.nil_append, this, parseGo_nil]
theorem put_parse {b : Bs} {l : List Fd} (h : parseL b = (l, 0)) : putF l = (b, 0) := by
  unfold parseL at h
  split at h
  · simp at h
  · obtain ⟨m, h1, h2, h3, h4⟩ := parse_inv b.length b [] l (Nat.le_refl _) (by simp) h
    simp only [List.nil_append] at h1; subst h1
    rw [putF, if_neg (by omega), if_pos h3, h2]
theorem parse_err {b : Bs} (h : (parseL b).2 ≠ 0) : (parseL b).1 = [] := by
  unfold parseL at h ⊢
  split
  · rfl
  · rename_i h1; rw [if_neg h1] at h; exact parseGo_err _ b [] (Nat.le_refl _) h

theorem encF_len {f : Fd} (h : rightF f = true) : (encF f).length ≤ 262 := by
  have h' := rightF_iff.1 h
  have := (show_bytes h'.1 h'.2.1).2.2.2.2
  simp only [encF, List.length_append, List.length_cons, List.length_nil]
  omega
theorem encL_len : ∀ {l : List Fd}, l.all rightF = true → (encL l).length ≤ 262 * l.length
  | [], _ => by simp [encL]
  | f :: l, h => by
    simp only [List.all_cons, Bool.and_eq_true] at h
    have := encF_len h.1
    have := encL_len h.2
    simp only [encL, List.length_append, List.length_cons]; omega
theorem encF_count {f : Fd} (h : rightF f = true) : (encF f).count 1 = 1 := by
  have h1 : encF f = (showF f.1 ++ 61 :: f.2) ++ [1] := by simp [encF]
  rw [h1, List.count_append, List.count_eq_zero_of_not_mem (enc_no1 h)]
  rfl

/-- The bytes of fields, cut anywhere: those of the first ones; or some bytes more, no end among them. -/
theorem enc_cut : ∀ (l : List Fd) (at' : Nat), l.all rightF = true → at' ≤ (encL l).length →
    (∃ k, k ≤ l.length ∧ (encL l).take at' = encL (l.take k) ∧ ((encL l).take at').count 1 = k) ∨
    ∃ k t, k ≤ l.length ∧ (encL l).take at' = encL (l.take k) ++ t ∧ t ≠ [] ∧ (1 : UInt8) ∉ t
  | [], at', _, h => by
    left; refine ⟨0, Nat.le_refl _, by simp [encL], by simp [encL]⟩
  | f :: l, at', h, hat => by
    simp only [List.all_cons, Bool.and_eq_true] at h
    have e : encL (f :: l) = encF f ++ encL l := rfl
    rw [e] at hat ⊢
    simp only [List.length_append] at hat
    by_cases h1 : at' < (encF f).length
    · by_cases h0 : at' = 0
      · subst h0; left; exact ⟨0, Nat.zero_le _, by simp [encL], by simp⟩
      right
      refine ⟨0, (encF f).take at', Nat.zero_le _, ?_, ?_, ?_⟩
      · rw [List.take_append_of_le_length (by omega)]; simp [encL]
      · intro e
        have := congrArg List.length e
        rw [List.length_take, List.length_nil] at this; omega
      · have e2 : encF f = (showF f.1 ++ 61 :: f.2) ++ [1] := by simp [encF]
        rw [e2] at h1 ⊢
        simp only [List.length_append, List.length_cons, List.length_nil] at h1
        rw [List.take_append_of_le_length (by simp only [List.length_append, List.length_cons]; omega)]
        exact fun hm => enc_no1 h.1 (List.mem_of_mem_take hm)
    · have e3 : (encF f ++ encL l).take at' = encF f ++ (encL l).take (at' - (encF f).length) := by
        rw [List.take_append, List.take_of_length_le (Nat.le_of_not_lt h1)]
      rcases enc_cut l (at' - (encF f).length) h.2 (by omega) with ⟨k, k1, k2, k3⟩ | ⟨k, t, k1, k2, k3, k4⟩
      · left
        refine ⟨k + 1, by simp; omega, ?_, ?_⟩
        · rw [e3, k2]; rfl
        · rw [e3, List.count_append, encF_count h.1, k3]; omega
      · right
        refine ⟨k + 1, t, by simp; omega, ?_, k3, k4⟩
        rw [e3, k2]
        show _ = (encF f ++ encL (l.take k)) ++ t
        simp
theorem encL_last : ∀ {l : List Fd}, l ≠ [] → ∃ m, encL l = m ++ [1]
  | [f], _ => ⟨showF f.1 ++ 61 :: f.2, by simp [encL, encF]⟩
  | f :: g :: l, _ => by
    obtain ⟨m, hm⟩ := encL_last (l := g :: l) (by simp)
    exact ⟨encF f ++ m, by show encF f ++ encL (g :: l) = _; rw [hm]; simp⟩

def getF (l : List Fd) (tag : Int) : Bs × Bool :=
  match l with
  | [] => ([], false)
  | f :: r => if f.1 = tag then (f.2, true) else getF r tag
def numF (l : List Fd) (tag : Int) : Int × Bool := if (getF l tag).2 = true then (if (parseF (getF l tag).1).2 = 0 then ((parseF (getF l tag).1).1, true) else (0, false)) else (0, false)
end Go.Fld
