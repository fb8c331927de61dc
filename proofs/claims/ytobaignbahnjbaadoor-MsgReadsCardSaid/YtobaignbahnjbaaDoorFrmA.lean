/- Frames: what is put, and what stands at the beginning of bytes; no program in sight. -/
import Derived.Test.YtobaignbahnjbaaDoorFldT
set_option linter.unusedVariables false
set_option linter.unusedSimpArgs false
namespace Go.Fld
open Go

def beg : Bs := [56, 61, 70, 73, 88, 46, 52, 46, 52, 1, 57, 61]
def sumF (l : Bs) : Nat := l.foldl (fun s c => (s + c.toNat) % 256) 0
def trailF (s : Nat) : Bs := [49, 48, 61, UInt8.ofNat (48 + s / 100), UInt8.ofNat (48 + s / 10 % 10), UInt8.ofNat (48 + s % 10), 1]
def rightB (b : Bs) : Bool := decide (1 ≤ b.length) && decide (b.length ≤ 8000) && decide ((parseL b).2 = 0) && (parseL b).1.all fun f => !(decide (8 ≤ f.1) && decide (f.1 ≤ 10))
def preB (b : Bs) : Bs := beg ++ showF b.length ++ [1] ++ b
def putB (b : Bs) : Bs × Int := if 8000 < b.length then ([], 4) else if rightB b = true then (preB b ++ trailF (sumF (preB b)), 0) else ([], 1)
def begins (b : Bs) : Bool := decide (b.take 12 = beg.take b.length)
/-- The first place behind the first byte at which a frame may begin. -/
def junkGo : Nat → Bs → Nat
  | n, [] => n
  | n, c :: l => if begins (c :: l) = true then n else junkGo (n + 1) l
def junkF (b : Bs) : Nat := match b with
  | [] => 0
  | _ :: l => junkGo 1 l
inductive Hd where
  | need
  | junk
  | frame (start long : Nat)
  deriving DecidableEq
def headR (r : Bs) : Hd :=
  if (r.takeWhile isDig).head? = some 48 ∨ 8000 < decVal 0 (r.takeWhile isDig) then .junk
  else match r.drop (r.takeWhile isDig).length with
    | [] => .need
    | c :: rest => if c ≠ 1 ∨ r.takeWhile isDig = [] then .junk
      else if rest.length < decVal 0 (r.takeWhile isDig) + 7 then .need else .frame (13 + (r.takeWhile isDig).length) (decVal 0 (r.takeWhile isDig))
def headF (b : Bs) : Hd := if begins b = false then .junk else if b.length < 12 then .need else headR (b.drop 12)
def nextB (b : Bs) : Int × Bs × Int :=
  match headF b with
  | .need => (0, [], 0)
  | .junk => (2, [], (junkF b : Nat))
  | .frame s n => if (b.drop (s + n)).take 7 = trailF (sumF (b.take (s + n))) ∧ rightB ((b.drop s).take n) = true then (1, (b.drop s).take n, ((s + n + 7 : Nat) : Int)) else (2, [], (junkF b : Nat))

theorem sumF_lt (l : Bs) : sumF l < 256 := by
  unfold sumF
  have : ∀ (l : Bs) (s : Nat), s < 256 → l.foldl (fun s c => (s + c.toNat) % 256) s < 256 := by
    intro l
    induction l with
    | nil => intro s h; exact h
    | cons c l ih => intro s _; rw [List.foldl_cons]; exact ih _ (Nat.mod_lt _ (by decide))
  exact this l 0 (by decide)
theorem sumF_snoc (l : Bs) (c : UInt8) : sumF (l ++ [c]) = (sumF l + c.toNat) % 256 := by unfold sumF; rw [List.foldl_append]; rfl
theorem sumF_nil : sumF [] = 0 := rfl
theorem sumF_next {l : Bs} {i : Nat} {b : UInt8} (hb : l[i]? = some b) : sumF (l.take (i + 1)) = (sumF (l.take i) + b.toNat) % 256 := by rw [take_next hb, sumF_snoc]
theorem sumF_app (l m : Bs) : sumF (l ++ m) = (sumF l + sumF m) % 256 := by
  have : ∀ (n : Nat) (m : Bs), m.length = n → sumF (l ++ m) = (sumF l + sumF m) % 256 := by
    intro n
    induction n with
    | zero =>
      intro m h
      have : m = [] := List.eq_nil_of_length_eq_zero h
      subst this; rw [List.append_nil, sumF_nil, Nat.add_zero, Nat.mod_eq_of_lt (sumF_lt l)]
    | succ n ih =>
      intro m h
      have hne : m ≠ [] := by rintro rfl; simp at h
      obtain ⟨k, c, rfl⟩ : ∃ k c, m = k ++ [c] := ⟨m.dropLast, m.getLast hne, (List.dropLast_concat_getLast hne).symm⟩
      rw [← List.append_assoc, sumF_snoc, sumF_snoc, ih k (by simpa using h)]
      omega
  exact this m.length m rfl

theorem put_long' {b : Bs} (h : 8000 < b.length) : putB b = ([], 4) := by unfold putB; rw [if_pos h]
theorem put_bad' {b : Bs} (h : ¬ 8000 < b.length) (hr : rightB b = false) : putB b = ([], 1) := by unfold putB; rw [if_neg h, if_neg (by rw [hr]; simp)]
theorem put_ok' {b : Bs} (h : ¬ 8000 < b.length) (hr : rightB b = true) : putB b = (preB b ++ trailF (sumF (preB b)), 0) := by unfold putB; rw [if_neg h, if_pos hr]
theorem right_no1 {b : Bs} (h : b.length < 1 ∨ 8000 < b.length) : rightB b = false := by
  unfold rightB
  rcases h with h | h
  · rw [decide_eq_false (p := 1 ≤ b.length) (by omega)]; rfl
  · rw [decide_eq_false (p := b.length ≤ 8000) (by omega), Bool.and_false]; rfl
theorem right_no2 {b : Bs} (h : ¬ (parseL b).2 = 0) : rightB b = false := by
  unfold rightB; rw [decide_eq_false h, Bool.and_false]; rfl
theorem right_no3 {b : Bs} {i : Nat} {f : Fld.Fd} (hb : (parseL b).1[i]? = some f) (h1 : 8 ≤ f.1) (h2 : f.1 ≤ 10) : rightB b = false := by
  unfold rightB
  have : ((parseL b).1.all fun f => !(decide (8 ≤ f.1) && decide (f.1 ≤ 10))) = false := by
    rw [Bool.eq_false_iff]; intro e
    have := List.all_eq_true.1 e f (List.mem_of_getElem? hb)
    simp only [Bool.not_eq_true', Bool.and_eq_false_imp, decide_eq_true_eq, decide_eq_false_iff_not] at this
    exact this h1 h2
  rw [this, Bool.and_false]
theorem right_yes {b : Bs} {i : Nat} (h1 : 1 ≤ b.length) (h2 : b.length ≤ 8000) (h3 : (parseL b).2 = 0) (hi : (parseL b).1.length ≤ i) (h4 : ((parseL b).1.take i).all (fun f => !(decide (8 ≤ f.1) && decide (f.1 ≤ 10))) = true) : rightB b = true := by
  rw [List.take_of_length_le hi] at h4
  unfold rightB
  rw [decide_eq_true h1, decide_eq_true h2, decide_eq_true h3, h4]; rfl
end Go.Fld
namespace Go.Fld
open Go
theorem u8_add (a : Nat) (b : UInt8) : IntKind.u8.wrap ((a : Int) + (b.toNat : Int)) = (((a + b.toNat) % 256 : Nat) : Int) := by rw [IntKind.wrap_u8]; omega
theorem i64_small {n : Nat} (h : n < 256) : IntKind.i64.wrap (n : Int) = (n : Int) := by rw [IntKind.wrap_i64]; omega
theorem i64_add (a : Nat) (b : UInt8) (h : a < 256) : (IntKind.i64.wrap ((a : Int) + IntKind.i64.wrap (b.toNat : Int))).tmod 256 = (((a + b.toNat) % 256 : Nat) : Int) := by
  have hb := b.toNat_lt
  have e : IntKind.i64.wrap ((a : Int) + IntKind.i64.wrap (b.toNat : Int)) = ((a + b.toNat : Nat) : Int) := by rw [IntKind.wrap_i64, IntKind.wrap_i64]; omega
  rw [e]; rfl
theorem sum_done {l : Bs} {i : Nat} (h : ¬ (i : Int) < (l.length : Int)) : sumF (l.take i) = sumF l := by rw [List.take_of_length_le (by omega)]
end Go.Fld
