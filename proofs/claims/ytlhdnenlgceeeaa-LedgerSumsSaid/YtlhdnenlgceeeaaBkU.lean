/- Sums and products within bounds; a sum told in two words. No program. -/
import Derived.Test.YtlhdnenlgceeeaaLc
set_option linter.unusedVariables false
set_option linter.unusedSimpArgs false
namespace Go.Bk
open Go Go.Abs
def numB (n : Int) : Bool := decide (-4611686018427387904 ≤ n) && decide (n ≤ 4611686018427387904)
def mulF (a b : Int) : Int × Bool := if numB a && numB b && numB (a * b) then (a * b, true) else (0, false)
def sumL : List Int → Int
  | [] => 0
  | x :: l => x + sumL l
def sumF (l : List Int) : Int × Bool := if l.all numB && numB (sumL l) then (sumL l, true) else (0, false)
theorem sumL_app (l m : List Int) : sumL (l ++ m) = sumL l + sumL m := by
  induction l with
  | nil => simp [sumL]
  | cons x l ih => simp only [List.cons_append, sumL, ih]; omega
theorem numB_iff {n : Int} : numB n = true ↔ -4611686018427387904 ≤ n ∧ n ≤ 4611686018427387904 := by simp [numB]
theorem numB_no {n : Int} : numB n = false ↔ ¬ (-4611686018427387904 ≤ n ∧ n ≤ 4611686018427387904) := by rw [← numB_iff]; simp
abbrev M64 : Int := 18446744073709551616
theorem u64_wrap (x : Int) : IntKind.u64.wrap x = x % M64 := by
  simp only [IntKind.wrap, IntKind.bits, IntKind.signed]
  rfl
/-- The low word, the high word of a number in two's complement. -/
def loW (s : Int) : Int := s % M64
def hiW (s : Int) : Int := (s / M64) % M64
theorem lo_rng (s : Int) : 0 ≤ loW s ∧ loW s < M64 := ⟨Int.emod_nonneg _ (by decide), Int.emod_lt_of_pos _ (by decide)⟩
theorem hi_rng (s : Int) : 0 ≤ hiW s ∧ hiW s < M64 := ⟨Int.emod_nonneg _ (by decide), Int.emod_lt_of_pos _ (by decide)⟩
theorem sar63 {n : Int} (h1 : -9223372036854775808 ≤ n) (h2 : n ≤ 9223372036854775807) : n / 9223372036854775808 = if n < 0 then -1 else 0 := by
  split <;> omega
/-- One number more: the low word, what is carried, the high word. -/
theorem add_lo (s n : Int) : (loW s + n % M64) % M64 = loW (s + n) := by unfold loW M64; omega
theorem add_carry (s n : Int) : (loW s + n % M64) / M64 = 0 ∨ (loW s + n % M64) / M64 = 1 := by
  have h1 := lo_rng s
  have h2 : 0 ≤ n % M64 ∧ n % M64 < M64 := ⟨Int.emod_nonneg _ (by decide), Int.emod_lt_of_pos _ (by decide)⟩
  unfold M64 at *; omega
theorem add_hi {s n : Int} (h1 : -9223372036854775808 ≤ n) (h2 : n ≤ 9223372036854775807) : (hiW s + (n / 9223372036854775808) % M64 + (loW s + n % M64) / M64) % M64 = hiW (s + n) := by
  have e1 : n / 9223372036854775808 = n / M64 := by unfold M64; omega
  have e2 : (s + n) / M64 = s / M64 + n / M64 + (s % M64 + n % M64) / M64 := by unfold M64; omega
  unfold hiW loW
  rw [e1, e2]
  generalize s / M64 = a
  generalize n / M64 = b
  generalize (s % M64 + n % M64) / M64 = c
  unfold M64; omega
/-- A number that fits one word. -/
theorem fits {s : Int} (hs : -85070591730234615865843651857942052864 ≤ s) (hs2 : s ≤ 85070591730234615865843651857942052864) : hiW s = (IntKind.i64.wrap (loW s) / 9223372036854775808) % M64 ↔ IntKind.i64.wrap (loW s) = s := by
  have hw : ∀ x : Int, 0 ≤ x → x < M64 → IntKind.i64.wrap x = if x < 9223372036854775808 then x else x - 18446744073709551616 := by
    intro x h1 h2
    unfold M64 at h2
    split
    · rw [wrap64_id (by omega) (by omega)]
    · have e : IntKind.i64.wrap x = IntKind.i64.wrap (x - 18446744073709551616) := by
        have h3 : x % (2 : Int) ^ IntKind.i64.bits = (x - 18446744073709551616) % (2 : Int) ^ IntKind.i64.bits := by
          show x % (2 : Int) ^ 64 = (x - 18446744073709551616) % (2 : Int) ^ 64
          omega
        unfold IntKind.wrap
        exact congrArg (fun r : Int => if (IntKind.i64.signed && decide (r ≥ 2 ^ (IntKind.i64.bits - 1))) = true then r - 2 ^ IntKind.i64.bits else r) h3
      rw [e, wrap64_id (by omega) (by omega)]
  have h1 := lo_rng s
  rw [hw _ h1.1 h1.2]
  unfold hiW loW M64 at *
  split <;> constructor <;> intro h <;> omega
theorem sumL_bnd {l : List Int} (h : l.all numB = true) : -(l.length * 4611686018427387904 : Int) ≤ sumL l ∧ sumL l ≤ l.length * 4611686018427387904 := by
  induction l with
  | nil => simp [sumL]
  | cons x l ih =>
    simp only [List.all_cons, Bool.and_eq_true] at h
    have h1 := numB_iff.1 h.1
    have h2 := ih h.2
    simp only [sumL, List.length_cons, Int.natCast_add]
    omega
theorem sumF_no {l : List Int} {i : Nat} {x : Int} (h : l[i]? = some x) (h2 : numB x = false) : sumF l = (0, false) := by
  have : l.all numB = false := List.all_eq_false.2 ⟨x, List.mem_of_getElem? h, by simp [h2]⟩
  unfold sumF; rw [this]; rfl
theorem sumF_yes {l : List Int} (h : l.all numB = true) (h2 : numB (sumL l) = true) : sumF l = (sumL l, true) := by unfold sumF; rw [h, h2]; rfl
theorem sumF_over {l : List Int} (h : l.all numB = true) (h2 : numB (sumL l) = false) : sumF l = (0, false) := by unfold sumF; rw [h, h2]; rfl
end Go.Bk
