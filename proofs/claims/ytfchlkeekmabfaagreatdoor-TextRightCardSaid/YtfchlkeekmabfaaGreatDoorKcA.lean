/- Texts of one chain, put together (Lc, FldR, TxA, TxC, TxD, N1, N2, M1, N7, X1, X2, Xg, Xh, Xi, Xk, Xj, Xm, Xn, Xl, Xo). -/
import Derived.Test.YtfchlkeekmabfaaGreatDoorKbA
import Derived.ProofKit
import Derived.Lib.UnsafeStr
import GoSem.Core.Utf8
import Derived.WalkKit
section
/- The layer, the plain facts: several texts of one chain, put together (AbsQ, AbsR, AbsS, AbsT, AbsU, AbsV, AbsW, AbsX). -/
/- How a region is worked off by rules: what hangs on a guard, and what a call hands on, waits. -/
namespace Go.Abs
open Go Go.RowKit
set_option linter.unusedVariables false
set_option linter.unusedSimpArgs false

section
variable {E : Env} {ops : Array Oper} {o : Oper} {d : Option Tmp} {l : List Oper} {st : St} {K : St → Prop}

variable {ty : TypeId} {pos : String} {after : Array Edge} {guard : Option (Nat × Bool)}
end

end Go.Abs

/- Loops, told by what changes. -/
namespace Go.Abs
open Go Go.RowKit
set_option linter.unusedVariables false
set_option linter.unusedSimpArgs false

end Go.Abs

/- From a contract to a law's row: what is answered is true; the arguments read as they did. -/
namespace Go.Abs
open Go Go.RowKit Go.ChangeShapes
set_option linter.unusedVariables false
set_option linter.unusedSimpArgs false

section
variable {H : Type} {enc : TypeId × Value → H} {P : Program}

end
end Go.Abs

/- What an argument's reading tells of its cells, as abstract values: one law a type. -/
namespace Go.Abs
open Go Go.RowKit Go.ChangeShapes Go.WideShapes
set_option linter.unusedVariables false
set_option linter.unusedSimpArgs false

section
variable {H : Type} {enc : TypeId × Value → H} {P : Program} {t : TypeId}

/-! ### an argument -/
section
variable {w : World} {base : Nat} {spare : Nat → Bool} {held : Bool} {r : Reach} {b0 : Nat} {v : Value} {d : DataW H} {ps : List MemPlace}

end
end

end Go.Abs

/- Lists of elements told by a function; contracts that a library's contract gives. -/
set_option linter.unusedVariables false
set_option linter.unusedSimpArgs false
namespace Go.Abs
open Go Go.RowKit

section
variable {E : Env} {ops : Array Oper} {d : Option Tmp} {l : List Oper} {st : St} {K : St → Prop}
end
section
variable {E : Env} {f : FuncId} {R : AV → List Nat → Prop}

end
end Go.Abs
namespace Go.Abs
open Go Go.RowKit
/-- A sequence between whose parts no more is known than this. -/
theorem AWP.seqP {E : Env} {Q : Exit → St → Prop} {st : St} {x y : Code} {ι : Type} (S : ι → St) (P : ι → Prop)
    (h1 : AWP E x (AThen (fun s => ∃ i, P i ∧ s.Wk (S i)) Q) st) (h2 : ∀ i, P i → AWP E y Q (S i)) : AWP E (.seq x y) Q st :=
  AWP.seq (AWP.mono h1 fun e s hs => by
    cases e <;> first | exact hs | skip
    obtain ⟨i, hp, hw⟩ := hs
    exact AWP.weaken hw (h2 i hp))
end Go.Abs
namespace Go.Abs
open Go Go.RowKit
theorem AWP.seqJ {E : Env} {Q : Exit → St → Prop} {st : St} {x y : Code} {ι : Type} (hv : List Nat) (ps : ι → List (Nat × AV)) (own : ι → List (Option (List AV))) (tk : ι → List Nat) (P : ι → Prop)
    (h1 : AWP E x (AThen (fun s => ∃ i, P i ∧ s.Wk (st.at hv (ps i) (own i) (tk i))) Q) st) (h2 : ∀ i, P i → AWP E y Q (st.at hv (ps i) (own i) (tk i))) : AWP E (.seq x y) Q st :=
  AWP.seqP (fun i => st.at hv (ps i) (own i) (tk i)) P h1 h2
end Go.Abs
namespace Go.Abs
end Go.Abs
namespace Go.Abs
open Go Go.RowKit
end Go.Abs
namespace Go.Abs
open Go Go.RowKit
end Go.Abs
namespace Go.Abs
open Go Go.RowKit
end Go.Abs
namespace Go.Abs
open Go Go.RowKit
section
variable {P : Program} {t : TypeId} {k : Bool → Prop}
end
end Go.Abs
namespace Go.Abs
end Go.Abs

/- A call whose body is walked in the caller's state: own blocks and tokens are shared. -/
set_option linter.unusedVariables false
set_option linter.unusedSimpArgs false
namespace Go.Abs
open Go Go.RowKit

section
variable {E : Env} {Q : Exit → St → Prop} {st : St} {ops : Array Oper} {l l1 l2 : List Oper}

end
end Go.Abs

/- A row of bytes that lies in new memory; values of slots that were put. -/
set_option linter.unusedVariables false
set_option linter.unusedSimpArgs false
namespace Go.Abs
open Go Go.RowKit

end Go.Abs

/- An own block that is written no more becomes cells that never change; a token's row becomes an own block, to be written. -/
set_option linter.unusedVariables false
set_option linter.unusedSimpArgs false
namespace Go.Abs
open Go Go.RowKit

section
variable {w0 : World} {im0 : Base} {c : Ctx} {st : St} {a : Act} {w : World}

end

section
variable {E : Env} {c : Code} {Q : Exit → St → Prop} {s : St}
end
end Go.Abs
end
section
/- Small plain facts for the walks over fields. -/
set_option linter.unusedVariables false
set_option linter.unusedSimpArgs false
namespace Go.Fld
open Go
def msr (n : Int) : Nat := if n < 0 then 2 * n.natAbs + 1 else 2 * n.toNat
end Go.Fld
namespace Go.Fld
open Go
theorem show_neg {n : Int} (h : numOK n = true) (hn : n < 0) : showF n = 45 :: showF (-n) := by
  have h' := h
  simp only [numOK, Bool.and_eq_true, decide_eq_true_eq] at h'
  have h2 : numOK (-n) = true := by simp only [numOK, Bool.and_eq_true, decide_eq_true_eq]; omega
  rw [showF, showF, if_pos h, if_pos h2, Lib.itoa, Lib.itoa, if_pos hn, if_neg (by omega)]
  congr 2; omega
theorem enc_dig {d : Int} (h0 : 0 ≤ d) (h1 : d < 10) : Utf8.encode (IntKind.i32.wrap (IntKind.i64.wrap (48 + d))) = ⟨[UInt8.ofNat (48 + d.toNat)].toArray⟩ := by
  obtain rfl | rfl | rfl | rfl | rfl | rfl | rfl | rfl | rfl | rfl : d = 0 ∨ d = 1 ∨ d = 2 ∨ d = 3 ∨ d = 4 ∨ d = 5 ∨ d = 6 ∨ d = 7 ∨ d = 8 ∨ d = 9 := by omega
  all_goals decide
end Go.Fld
namespace Go.Fld
theorem msr_neg {n : Int} (h : numOK n = true) (hn : n < 0) : msr (IntKind.i64.wrap (0 - n)) < msr n := by
  have hh := numOK_iff.1 h
  have e : IntKind.i64.wrap (0 - n) = 0 - n := by rw [IntKind.wrap_i64]; omega
  rw [e]; unfold msr; rw [if_neg (by omega), if_pos hn]; omega
theorem wdiv {n : Int} (h : numOK n = true) : IntKind.i64.wrap (n.tdiv 10) = n.tdiv 10 := by
  have hh := numOK_iff.1 h
  rw [IntKind.wrap_i64]
  rcases Int.le_total 0 n with h0 | h0
  · rw [Int.tdiv_eq_ediv_of_nonneg h0]; omega
  · have : n.tdiv 10 = -((-n) / 10) := by rw [← Int.neg_neg n, Int.neg_tdiv, Int.tdiv_eq_ediv_of_nonneg (by omega), Int.neg_neg]
    rw [this]; omega
theorem msr_div {n : Int} (h : numOK n = true) (hn : ¬ n < 10) : msr (IntKind.i64.wrap (n.tdiv 10)) < msr n := by
  rw [wdiv h, Int.tdiv_eq_ediv_of_nonneg (by omega)]; unfold msr; rw [if_neg (by omega), if_neg (by omega)]; omega
end Go.Fld
namespace Go.Fld
open Go
end Go.Fld
namespace Go.Fld
end Go.Fld
namespace Go.Fld
end Go.Fld
namespace Go.Fld
open Go
/-- How many bytes the sign takes. -/
def sg (s : Bs) : Nat := if (signed s).2 = true then 1 else 0
theorem sg_drop (s : Bs) : s.drop (sg s) = (signed s).1 ∧ sg s + (signed s).1.length = s.length := by
  unfold sg signed; split <;> simp <;> omega
theorem sg_one {s : Bs} {b : UInt8} (hb : s[0]? = some b) (h : (b.toNat : Int) = 45) : sg s = 1 := by
  have e : b = 45 := u8_eq h rfl
  subst e
  cases s with
  | nil => simp at hb
  | cons c r => simp at hb; subst hb; rfl
theorem sg_zero1 {s : Bs} (h : ¬ (0 : Int) < (s.length : Int)) : sg s = 0 := by
  have : s = [] := List.eq_nil_of_length_eq_zero (by omega)
  subst this; rfl
theorem sg_zero2 {s : Bs} {b : UInt8} (hb : s[0]? = some b) (h : ¬ (b.toNat : Int) = 45) : sg s = 0 := by
  unfold sg
  rw [if_neg]
  intro e
  cases s with
  | nil => simp at hb
  | cons c r =>
    simp at hb; subst hb
    unfold signed at e
    split at e
    · rename_i heq; simp at heq; exact h (by rw [heq.1]; rfl)
    · simp at e
theorem sg_get {s : Bs} {j : Nat} : s[sg s + j]? = (signed s).1[j]? := by
  rw [← (sg_drop s).1, List.getElem?_drop]
end Go.Fld
namespace Go.Fld
open Go
theorem r1_no {s : Bs} {i0 : Nat} {b : UInt8} (hJ : i0 = sg s) (hb : s[i0]? = some b) (hc : ¬ (b.toNat : Int) = 48 ∨ ¬ (1 : Int) < (s.length : Int)) : ¬ ((signed s).1 = [] ∨ ((signed s).1.head? = some 48 ∧ 1 < s.length)) := by
  have hlt := get_lt hb
  have hsg := (sg_drop s).2
  have hb' : (signed s).1[0]? = some b := by rw [← sg_get, Nat.add_zero, ← hJ]; exact hb
  rcases hc with hc | hc
  · exact form_no1 hb' hc
  · rintro (e | ⟨_, e⟩)
    · rw [e] at hb'; simp at hb'
    · omega
theorem r1_yes1 {s : Bs} {i0 : Nat} (hJ : i0 = sg s) (h : (i0 : Int) = (s.length : Int)) : (signed s).1 = [] ∨ ((signed s).1.head? = some 48 ∧ 1 < s.length) := by
  left
  have hsg := (sg_drop s).2
  exact List.eq_nil_of_length_eq_zero (by omega)
theorem r1_yes2 {s : Bs} {i0 : Nat} {b : UInt8} (hJ : i0 = sg s) (hb : s[i0]? = some b) (h : (b.toNat : Int) = 48) (h2 : (1 : Int) < (s.length : Int)) : (signed s).1 = [] ∨ ((signed s).1.head? = some 48 ∧ 1 < s.length) := by
  right
  have hb' : (signed s).1[0]? = some b := by rw [← sg_get, Nat.add_zero, ← hJ]; exact hb
  have e : b = 48 := u8_eq h rfl
  exact ⟨by rw [head_at hb', e], by omega⟩
theorem val_next {l : Bs} {j : Nat} {b : UInt8} (hb : l[j]? = some b) : decVal 0 (l.take (j + 1)) = decVal 0 (l.take j) * 10 + (b.toNat - 48) := by
  rw [take_next hb, decVal_append, decVal_cons, decVal_nil]
theorem r1_get {s : Bs} {i0 j : Nat} {b : UInt8} (hJ : i0 = sg s) (hb : s[i0 + j]? = some b) : (signed s).1[j]? = some b := by rw [← sg_get, ← hJ]; exact hb
theorem r1_over1 {l : Bs} {j : Nat} {b : UInt8} (hb : l[j]? = some b) (h : 4611686018427387904 < decVal 0 (l.take j)) : 4611686018427387904 < decVal 0 (l.take (j + 1)) := by
  rw [val_next hb]; omega
theorem r1_over2 {l : Bs} {j n : Nat} {b : UInt8} (hb : l[j]? = some b) (hn : n = decVal 0 (l.take j)) (h : (461168601842738790 : Int) < (n : Int)) : 4611686018427387904 < decVal 0 (l.take (j + 1)) := by
  rw [val_next hb]; omega
end Go.Fld
namespace Go.Fld
open Go
theorem wrap_u64' (n : Int) : IntKind.u64.wrap n = n % 18446744073709551616 := by simp [IntKind.wrap, IntKind.bits, IntKind.signed]
theorem r1_add {n : Nat} {b : UInt8} (h1 : ¬ (b.toNat : Int) < 48) (h2 : ¬ (57 : Int) < (b.toNat : Int)) (h : ¬ (461168601842738790 : Int) < (n : Int)) :
    IntKind.u64.wrap (IntKind.u64.wrap ((n : Int) * 10) + IntKind.u64.wrap (IntKind.u8.wrap ((b.toNat : Int) - 48))) = ((n * 10 + (b.toNat - 48) : Nat) : Int) := by
  rw [wrap_u64', wrap_u64', wrap_u64', IntKind.wrap_u8]; omega
end Go.Fld
namespace Go.Fld
open Go
theorem r1_end {s : Bs} {i0 j : Nat} (hJ : i0 = sg s) (h1 : j ≤ (signed s).1.length) (c : ¬ ((i0 + j : Nat) : Int) < (s.length : Int)) : (signed s).1.take j = (signed s).1 := by
  have hsg := (sg_drop s).2
  exact List.take_of_length_le (by omega)
theorem sg_yes {s : Bs} {i0 : Nat} (hJ : i0 = sg s) (h : (i0 : Int) = 1) : (signed s).2 = true := by
  unfold sg at hJ; split at hJ
  · assumption
  · omega
theorem sg_no {s : Bs} {i0 : Nat} (hJ : i0 = sg s) (h : ¬ (i0 : Int) = 1) : (signed s).2 = false := by
  unfold sg at hJ; split at hJ
  · omega
  · rename_i h'; simpa using h'
end Go.Fld
end
section
/- What is asked, as lines of words: what may be, its words, what words ask; the document's reading, word by word, tells the same. No program. -/
set_option linter.unusedVariables false
set_option linter.unusedSimpArgs false
namespace Go.Txt
open Go.Fld Go.Bk Go.Msg
/-! ### words -/
/-! ### names -/
/-! ### words of what is asked, and back -/
/-! ### the document's reading -/
def parseR (s : List UInt8) : Ak × Int :=
  if 256 < s.length then (zeroA, 4)
  else if placeF askN (wd (splitW 32 s) 0) = 0 then (zeroA, 10)
  else if (askS (placeF askN (wd (splitW 32 s) 0)) (splitW 32 s) (1, false)).2.2 = true ∨ (askS (placeF askN (wd (splitW 32 s) 0)) (splitW 32 s) (1, false)).2.1 ≠ (splitW 32 s).length ∨ mayA (askS (placeF askN (wd (splitW 32 s) 0)) (splitW 32 s) (1, false)).1 = false then (zeroA, 3)
  else ((askS (placeF askN (wd (splitW 32 s) 0)) (splitW 32 s) (1, false)).1, 0)
end Go.Txt
end
section
/- Lines: the document's answers are the program's; what is shown is read again. No program. -/
set_option linter.unusedVariables false
set_option linter.unusedSimpArgs false
namespace Go.Txt
open Go.Fld Go.Bk Go.Msg
theorem parse_same (s : List UInt8) : parseR s = parseA s := by
  unfold parseR parseA
  split
  · rfl
  split
  · rfl
  rename_i hl h0
  obtain ⟨hn, hk⟩ := ask_name rfl h0
  have hf := fits hk (splitW 32 s) hn.symm (splitW_ne 32 s)
  generalize placeF askN (wd (splitW 32 s) 0) = k at *
  by_cases hg : goodS k (splitW 32 s)
  · obtain ⟨⟨ha, hw⟩, he⟩ := hf.1 hg
    rw [if_neg, if_pos (show_iff.2 ⟨ha, hw⟩), he]
    obtain ⟨g1, g2, g3⟩ := hg
    rintro (h | h | h)
    · rw [g1] at h; exact absurd h (by decide)
    · exact h g2
    · rw [g3] at h; exact absurd h (by decide)
  · rw [if_pos, if_neg]
    · intro hs
      exact hg (hf.2 (show_iff.1 hs))
    · by_cases h1 : (askS k (splitW 32 s) (1, false)).2.2 = true
      · exact .inl h1
      · by_cases h2 : (askS k (splitW 32 s) (1, false)).2.1 = (splitW 32 s).length
        · refine .inr (.inr ?_)
          cases h3 : mayA (askS k (splitW 32 s) (1, false)).1
          · rfl
          · exact absurd ⟨by simpa using h1, h2, h3⟩ hg
        · exact .inr (.inl h2)

/-! ### what is shown is read -/
end Go.Txt
end
section
/- Lines: a blank more; a text, line by line. No program. -/
set_option linter.unusedVariables false
set_option linter.unusedSimpArgs false
namespace Go.Txt
open Go.Fld Go.Bk Go.Msg
/-! ### a text, line by line -/
theorem linesGo_len : ∀ (l : List (List UInt8)) (row : Nat) (acc : List Ak), (linesGo row l acc).1.length ≤ acc.length + l.length
  | [], row, acc => by simp [linesGo]
  | w :: l, row, acc => by
    have h1 := linesGo_len l (row + 1) acc
    have h2 := linesGo_len l (row + 1) (acc ++ [(parseA w).1])
    rw [linesGo]
    repeat' split
    all_goals simp at h1 h2 ⊢
    all_goals omega
end Go.Txt
end
section
namespace Go.Proofs.YtfchlkeekmabfaaGreatDoor
open Go Go.Abs Go.RowKit Go.Fld
set_option linter.unusedVariables false
set_option linter.unusedSimpArgs false

theorem r1right_c (n : Int) : ACalls E 71 [i64 n] (fun r t => r = bl (numOK n) ∧ t = []) := by -- checkroll/checkrollref01.Right
  refine ACalls.of_awp (n := 9) (rs := [.tmp 2]) Tryz.func71 rfl Tryz.ntmps71 rfl ?_
  refine AWP.seqk fun K1 hK1 => ?_
  refine AWP.region ?_
  simp only [go_sem] -- region 0
  repeat' (first | (refine AGet.haveM (by assumption) ?_; (try simp only [go_sem])) | (refine AGet.have' (by assumption) ?_; (try simp only [go_sem])) | ((first | refine AGet.nth ?_ (fun b hb => ?_) | refine AGet.nth1 ?_ (fun b hb => ?_) | with_reducible refine And.intro ?_ ?_); (focus ((first | omega | exact List.length_pos_iff.2 (by assumption) | (simp only [List.length_append, List.length_cons, List.length_nil, List.length_map, List.length_take, List.length_drop] at *; omega) | (rw [wrap64_id (by omega) (by omega)]; omega) | (simp; done)))); (try simp only [hb, go_sem])))
  refine hK1 _ ?_; clear hK1 K1
  refine AWP.seqk fun K2 hK2 => ?_
  refine AWP.region ?_
  simp only [go_sem] -- region 1
  repeat' (first | (refine AGuard.splitN (fun h => ?_) (fun h => ?_) <;> simp only [h, go_sem] <;> try simp only [dD] at h) | (refine AGuard.split (fun h => ?_) (fun h => ?_) <;> simp only [h, go_sem] <;> try simp only [dD] at h) | (refine AGet.haveM (by assumption) ?_; (try simp only [go_sem])) | (refine AGet.have' (by assumption) ?_; (try simp only [go_sem])) | ((first | refine AGet.nth ?_ (fun b hb => ?_) | refine AGet.nth1 ?_ (fun b hb => ?_) | with_reducible refine And.intro ?_ ?_); (focus ((first | omega | exact List.length_pos_iff.2 (by assumption) | (simp only [List.length_append, List.length_cons, List.length_nil, List.length_map, List.length_take, List.length_drop] at *; omega) | (rw [wrap64_id (by omega) (by omega)]; omega) | (simp; done)))); (try simp only [hb, go_sem])))
  all_goals (
    refine hK2 _ ?_; clear hK2 K2
    refine AWP.ret ?_
    try simp only [go_sem]
    exact ⟨[], .v _, rfl, rfl, by simp_all [numOK] <;> omega, rfl⟩)


end Go.Proofs.YtfchlkeekmabfaaGreatDoor
end
section
namespace Go.Proofs.YtfchlkeekmabfaaGreatDoor
open Go Go.Abs Go.RowKit Go.Fld
set_option linter.unusedVariables false
set_option linter.unusedSimpArgs false

theorem r1show_s (n : Int) (ih : ∀ m : Int, msr m < msr n → ACalls E 49 [i64 m] (fun r t => r = str (showF m) ∧ t = [])) : ACalls E 49 [i64 n] (fun r t => r = str (showF n) ∧ t = []) := by -- checkroll/checkrollref01.Show
  refine ACalls.of_awp (n := 27) (rs := [.tmp 2]) Tryz.func49 rfl Tryz.ntmps49 rfl ?_
  refine AWP.seqk fun K1 hK1 => ?_
  refine AWP.region ?_
  simp only [go_sem] -- region 0
  repeat' (first | (refine AGet.haveM (by assumption) ?_; (try simp only [go_sem])) | (refine AGet.have' (by assumption) ?_; (try simp only [go_sem])) | ((first | refine AGet.nth ?_ (fun b hb => ?_) | refine AGet.nth1 ?_ (fun b hb => ?_) | with_reducible refine And.intro ?_ ?_); (focus (first | omega | (have := show_len (IntKind.i64.wrap (0 - n)); omega) | (have := show_len (IntKind.i64.wrap (n.tdiv 10)); rw [enc_dig (by rw [Int.tmod_eq_emod_of_nonneg (by omega)]; omega) (by rw [Int.tmod_eq_emod_of_nonneg (by omega)]; omega)]; show _ + 1 ≤ _; omega))); (try simp only [hb, go_sem])))
  refine hK1 _ ?_; clear hK1 K1
  refine AWP.seqk fun K2 hK2 => ?_
  refine AWP.seqk fun K3 hK3 => ?_
  refine AWP.region ?_
  simp only [go_sem] -- region 1
  repeat' (first | (refine ACall.one (r1right_c _) (by kernel_rfl) rfl ?_; simp only [go_sem]) | (refine AGet.haveM (by assumption) ?_; (try simp only [go_sem])) | (refine AGet.have' (by assumption) ?_; (try simp only [go_sem])) | ((first | refine AGet.nth ?_ (fun b hb => ?_) | refine AGet.nth1 ?_ (fun b hb => ?_) | with_reducible refine And.intro ?_ ?_); (focus (first | omega | (have := show_len (IntKind.i64.wrap (0 - n)); omega) | (have := show_len (IntKind.i64.wrap (n.tdiv 10)); rw [enc_dig (by rw [Int.tmod_eq_emod_of_nonneg (by omega)]; omega) (by rw [Int.tmod_eq_emod_of_nonneg (by omega)]; omega)]; show _ + 1 ≤ _; omega))); (try simp only [hb, go_sem])))
  refine hK3 _ ?_; clear hK3 K3
  refine AWP.cond rfl (fun c5 => ?_) (fun c5 => ?_)
  · first | exact Bool.noConfusion c5 | (
      try simp only [dD] at c5
      refine AWP.seqk fun K4 hK4 => ?_
      refine AWP.region ?_
      simp only [go_sem] -- region 2
      repeat' (first | (refine AGet.haveM (by assumption) ?_; (try simp only [go_sem])) | (refine AGet.have' (by assumption) ?_; (try simp only [go_sem])) | ((first | refine AGet.nth ?_ (fun b hb => ?_) | refine AGet.nth1 ?_ (fun b hb => ?_) | with_reducible refine And.intro ?_ ?_); (focus (first | omega | (have := show_len (IntKind.i64.wrap (0 - n)); omega) | (have := show_len (IntKind.i64.wrap (n.tdiv 10)); rw [enc_dig (by rw [Int.tmod_eq_emod_of_nonneg (by omega)]; omega) (by rw [Int.tmod_eq_emod_of_nonneg (by omega)]; omega)]; show _ + 1 ≤ _; omega))); (try simp only [hb, go_sem])))
      refine hK4 _ ?_; clear hK4 K4
      refine AWP.ret ?_
      try simp only [go_sem]
      clear hK2 K2
      exact ⟨[], .v _, rfl, rfl, by first
          | (have e : showF n = [] := by unfold showF; rw [c5]; rfl
             rw [e])
          | (have hh := numOK_iff.1 c5
             rw [show_neg c5 c7, wrap64_id (by omega) (by omega), Int.zero_sub])
          | (rw [show_dig (by omega) c13, enc_dig (by omega) c13])
          | (rw [show_big c5 (by omega), wdiv c5, enc_dig (by rw [Int.tmod_eq_emod_of_nonneg (by omega)]; omega) (by rw [Int.tmod_eq_emod_of_nonneg (by omega)]; omega)]), rfl⟩)
  · first | exact Bool.noConfusion c5 | (
      try simp only [dD] at c5
      refine AWP.skip ?_
      refine hK2 _ ?_; clear hK2 K2
      refine AWP.seqk fun K5 hK5 => ?_
      refine AWP.seqk fun K6 hK6 => ?_
      refine AWP.region ?_
      simp only [go_sem] -- region 3
      repeat' (first | (refine AGet.haveM (by assumption) ?_; (try simp only [go_sem])) | (refine AGet.have' (by assumption) ?_; (try simp only [go_sem])) | ((first | refine AGet.nth ?_ (fun b hb => ?_) | refine AGet.nth1 ?_ (fun b hb => ?_) | with_reducible refine And.intro ?_ ?_); (focus (first | omega | (have := show_len (IntKind.i64.wrap (0 - n)); omega) | (have := show_len (IntKind.i64.wrap (n.tdiv 10)); rw [enc_dig (by rw [Int.tmod_eq_emod_of_nonneg (by omega)]; omega) (by rw [Int.tmod_eq_emod_of_nonneg (by omega)]; omega)]; show _ + 1 ≤ _; omega))); (try simp only [hb, go_sem])))
      refine hK6 _ ?_; clear hK6 K6
      refine AWP.cond rfl (fun c7 => ?_) (fun c7 => ?_)
      · first | exact Bool.noConfusion c7 | (
          try simp only [dD] at c7
          refine AWP.seqk fun K7 hK7 => ?_
          refine AWP.region ?_
          simp only [go_sem] -- region 4
          repeat' (first | (refine ACall.one (ih _ (by first | (have := c13; exact msr_div c5 c13) | exact msr_neg c5 c7)) (by kernel_rfl) rfl ?_; simp only [go_sem]) | (refine AGet.haveM (by assumption) ?_; (try simp only [go_sem])) | (refine AGet.have' (by assumption) ?_; (try simp only [go_sem])) | ((first | refine AGet.nth ?_ (fun b hb => ?_) | refine AGet.nth1 ?_ (fun b hb => ?_) | with_reducible refine And.intro ?_ ?_); (focus (first | omega | (have := show_len (IntKind.i64.wrap (0 - n)); omega) | (have := show_len (IntKind.i64.wrap (n.tdiv 10)); rw [enc_dig (by rw [Int.tmod_eq_emod_of_nonneg (by omega)]; omega) (by rw [Int.tmod_eq_emod_of_nonneg (by omega)]; omega)]; show _ + 1 ≤ _; omega))); (try simp only [hb, go_sem])))
          refine hK7 _ ?_; clear hK7 K7
          refine AWP.ret ?_
          try simp only [go_sem]
          clear hK5 K5
          exact ⟨[], .v _, rfl, rfl, by first
              | (have e : showF n = [] := by unfold showF; rw [c5]; rfl
                 rw [e])
              | (have hh := numOK_iff.1 c5
                 rw [show_neg c5 c7, wrap64_id (by omega) (by omega), Int.zero_sub])
              | (rw [show_dig (by omega) c13, enc_dig (by omega) c13])
              | (rw [show_big c5 (by omega), wdiv c5, enc_dig (by rw [Int.tmod_eq_emod_of_nonneg (by omega)]; omega) (by rw [Int.tmod_eq_emod_of_nonneg (by omega)]; omega)]), rfl⟩)
      · first | exact Bool.noConfusion c7 | (
          try simp only [dD] at c7
          refine AWP.skip ?_
          refine hK5 _ ?_; clear hK5 K5
          refine AWP.seqk fun K8 hK8 => ?_
          refine AWP.seqk fun K9 hK9 => ?_
          refine AWP.region ?_
          simp only [go_sem] -- region 5
          repeat' (first | (refine AGet.haveM (by assumption) ?_; (try simp only [go_sem])) | (refine AGet.have' (by assumption) ?_; (try simp only [go_sem])) | ((first | refine AGet.nth ?_ (fun b hb => ?_) | refine AGet.nth1 ?_ (fun b hb => ?_) | with_reducible refine And.intro ?_ ?_); (focus (first | omega | (have := show_len (IntKind.i64.wrap (0 - n)); omega) | (have := show_len (IntKind.i64.wrap (n.tdiv 10)); rw [enc_dig (by rw [Int.tmod_eq_emod_of_nonneg (by omega)]; omega) (by rw [Int.tmod_eq_emod_of_nonneg (by omega)]; omega)]; show _ + 1 ≤ _; omega))); (try simp only [hb, go_sem])))
          refine hK9 _ ?_; clear hK9 K9
          refine AWP.cond rfl (fun c13 => ?_) (fun c13 => ?_)
          · first | exact Bool.noConfusion c13 | (
              try simp only [dD] at c13
              refine AWP.seqk fun K10 hK10 => ?_
              refine AWP.region ?_
              simp only [go_sem] -- region 6
              repeat' (first | (refine AGet.haveM (by assumption) ?_; (try simp only [go_sem])) | (refine AGet.have' (by assumption) ?_; (try simp only [go_sem])) | ((first | refine AGet.nth ?_ (fun b hb => ?_) | refine AGet.nth1 ?_ (fun b hb => ?_) | with_reducible refine And.intro ?_ ?_); (focus (first | omega | (have := show_len (IntKind.i64.wrap (0 - n)); omega) | (have := show_len (IntKind.i64.wrap (n.tdiv 10)); rw [enc_dig (by rw [Int.tmod_eq_emod_of_nonneg (by omega)]; omega) (by rw [Int.tmod_eq_emod_of_nonneg (by omega)]; omega)]; show _ + 1 ≤ _; omega))); (try simp only [hb, go_sem])))
              refine hK10 _ ?_; clear hK10 K10
              refine AWP.ret ?_
              try simp only [go_sem]
              clear hK8 K8
              exact ⟨[], .v _, rfl, rfl, by first
                  | (have e : showF n = [] := by unfold showF; rw [c5]; rfl
                     rw [e])
                  | (have hh := numOK_iff.1 c5
                     rw [show_neg c5 c7, wrap64_id (by omega) (by omega), Int.zero_sub])
                  | (rw [show_dig (by omega) c13, enc_dig (by omega) c13])
                  | (rw [show_big c5 (by omega), wdiv c5, enc_dig (by rw [Int.tmod_eq_emod_of_nonneg (by omega)]; omega) (by rw [Int.tmod_eq_emod_of_nonneg (by omega)]; omega)]), rfl⟩)
          · first | exact Bool.noConfusion c13 | (
              try simp only [dD] at c13
              refine AWP.skip ?_
              refine hK8 _ ?_; clear hK8 K8
              refine AWP.seqk fun K11 hK11 => ?_
              refine AWP.region ?_
              simp only [go_sem] -- region 7
              repeat' (first | (refine ACall.one (ih _ (by first | (have := c13; exact msr_div c5 c13) | exact msr_neg c5 c7)) (by kernel_rfl) rfl ?_; simp only [go_sem]) | (refine AGet.haveM (by assumption) ?_; (try simp only [go_sem])) | (refine AGet.have' (by assumption) ?_; (try simp only [go_sem])) | ((first | refine AGet.nth ?_ (fun b hb => ?_) | refine AGet.nth1 ?_ (fun b hb => ?_) | with_reducible refine And.intro ?_ ?_); (focus (first | omega | (have := show_len (IntKind.i64.wrap (0 - n)); omega) | (have := show_len (IntKind.i64.wrap (n.tdiv 10)); rw [enc_dig (by rw [Int.tmod_eq_emod_of_nonneg (by omega)]; omega) (by rw [Int.tmod_eq_emod_of_nonneg (by omega)]; omega)]; show _ + 1 ≤ _; omega))); (try simp only [hb, go_sem])))
              refine hK11 _ ?_; clear hK11 K11
              refine AWP.ret ?_
              try simp only [go_sem]
              exact ⟨[], .v _, rfl, rfl, by first
                  | (have e : showF n = [] := by unfold showF; rw [c5]; rfl
                     rw [e])
                  | (have hh := numOK_iff.1 c5
                     rw [show_neg c5 c7, wrap64_id (by omega) (by omega), Int.zero_sub])
                  | (rw [show_dig (by omega) c13, enc_dig (by omega) c13])
                  | (rw [show_big c5 (by omega), wdiv c5, enc_dig (by rw [Int.tmod_eq_emod_of_nonneg (by omega)]; omega) (by rw [Int.tmod_eq_emod_of_nonneg (by omega)]; omega)]), rfl⟩)))
theorem r1show_c (n : Int) : ACalls E 49 [i64 n] (fun r t => r = str (showF n) ∧ t = []) := by
  have : ∀ (k : Nat) (n : Int), msr n = k → ACalls E 49 [i64 n] (fun r t => r = str (showF n) ∧ t = []) := by
    intro k
    induction k using Nat.strongRecOn with
    | _ k ih => intro n hn; exact r1show_s n fun m hm => ih (msr m) (by omega) m rfl
  exact this _ n rfl


end Go.Proofs.YtfchlkeekmabfaaGreatDoor
end
section
set_option linter.unusedVariables false
set_option linter.unusedSimpArgs false
namespace Go.Proofs.YtfchlkeekmabfaaGreatDoor
open Go Go.Abs Go.RowKit Go.Bk Go.Msg
theorem exec_kind {x : Ex} (h : x.kind < 1 ∨ 8 < x.kind) : execB x = false := by
  unfold execB; rw [if_neg (by omega), if_neg (by omega)]; simp
theorem exec_oth {x : Ex} (h1 : ¬ (x.kind = 4 ∨ x.kind = 7 ∨ x.kind = 8)) (h2 : 1 ≤ x.kind ∧ x.kind ≤ 8) : execB x = (nameB x.id && nameB x.ord && nameB x.acc && nameB x.sym && decide (x.ref = []) && smallB x.qty && smallB x.price && whenB x.time) := by
  unfold execB; rw [if_neg h1, if_pos (by omega)]

set_option maxHeartbeats 4000000 in
set_option maxRecDepth 8000 in
theorem r5small_c (n : Int) : ACalls E 69 [i64 n] (fun r t => r = bl (smallB n) ∧ t = []) := by -- checkroll/checkrollref05.small
  refine ACalls.of_awp (n := 9) (rs := [.tmp 2]) Tryz.func69 rfl Tryz.ntmps69 rfl ?_
  repeat' (first
    | refine AWP.seqk fun K hK => ?_
    | (refine AWP.region ?_; simp only [go_sem])
    | (refine hK _ ?_; clear hK K)
    | refine AWP.block ?_
    | refine AWP.cond rfl (fun c => ?_) (fun c => ?_) <;> first | exact Bool.noConfusion c | (try simp only [dD] at c)
    | refine AWP.skip ?_
    | (refine AWP.exit ?_; simp only [go_sem])
    | (refine AGuard.splitN (fun h => ?_) (fun h => ?_) <;> simp only [h, go_sem] <;> (try simp only [dD] at h))
    | (refine AGuard.split (fun h => ?_) (fun h => ?_) <;> simp only [h, go_sem] <;> (try simp only [dD] at h))
    | (refine AGet.haveM (by assumption) ?_; (try simp only [go_sem]))
    | (refine AGet.have' (by assumption) ?_; (try simp only [go_sem]))
    | ((first | refine AGet.nth ?_ (fun b hb => ?_) | refine AGet.nth1 ?_ (fun b hb => ?_) | with_reducible refine And.intro ?_ ?_); (focus (first | omega | assumption | exact List.length_pos_iff.2 (by assumption) | (simp only [List.length_append, List.length_cons, List.length_nil, List.length_map, List.length_take, List.length_drop] at *; omega) | (rw [wrap64_id (by omega) (by omega)]; omega) | (simp; done) | (simp [spare_len]; done) | (exact ⟨by omega, by omega⟩))); (try simp only [hb, go_sem]))
    | (
        refine AWP.ret ?_
        refine AEnd.is ?_; simp only [go_sem, out_v, out_s, out_n, v_int, v_bool, v_str] <;> (simp_all [smallB] <;> omega))
    | refine AWP.fin (by assumption) ?_
    | fail)

set_option maxHeartbeats 4000000 in
set_option maxRecDepth 8000 in
theorem r5time_c (n : Int) : ACalls E 70 [i64 n] (fun r t => r = bl (whenB n) ∧ t = []) := by -- checkroll/checkrollref05.time
  refine ACalls.of_awp (n := 9) (rs := [.tmp 2]) Tryz.func70 rfl Tryz.ntmps70 rfl ?_
  repeat' (first
    | refine AWP.seqk fun K hK => ?_
    | (refine AWP.region ?_; simp only [go_sem])
    | (refine hK _ ?_; clear hK K)
    | refine AWP.block ?_
    | refine AWP.cond rfl (fun c => ?_) (fun c => ?_) <;> first | exact Bool.noConfusion c | (try simp only [dD] at c)
    | refine AWP.skip ?_
    | (refine AWP.exit ?_; simp only [go_sem])
    | (refine AGuard.splitN (fun h => ?_) (fun h => ?_) <;> simp only [h, go_sem] <;> (try simp only [dD] at h))
    | (refine AGuard.split (fun h => ?_) (fun h => ?_) <;> simp only [h, go_sem] <;> (try simp only [dD] at h))
    | (refine AGet.haveM (by assumption) ?_; (try simp only [go_sem]))
    | (refine AGet.have' (by assumption) ?_; (try simp only [go_sem]))
    | ((first | refine AGet.nth ?_ (fun b hb => ?_) | refine AGet.nth1 ?_ (fun b hb => ?_) | with_reducible refine And.intro ?_ ?_); (focus (first | omega | assumption | exact List.length_pos_iff.2 (by assumption) | (simp only [List.length_append, List.length_cons, List.length_nil, List.length_map, List.length_take, List.length_drop] at *; omega) | (rw [wrap64_id (by omega) (by omega)]; omega) | (simp; done) | (simp [spare_len]; done) | (exact ⟨by omega, by omega⟩))); (try simp only [hb, go_sem]))
    | (
        refine AWP.ret ?_
        refine AEnd.is ?_; simp only [go_sem, out_v, out_s, out_n, v_int, v_bool, v_str] <;> (simp_all [whenB] <;> omega))
    | refine AWP.fin (by assumption) ?_
    | fail)

set_option maxHeartbeats 4000000 in
set_option maxRecDepth 8000 in
theorem r5name_c (s : List UInt8) (hs : s.length ≤ 9223372036854775807) : ACalls E 46 [str s] (fun r t => r = bl (nameB s) ∧ t = []) := by -- checkroll/checkrollref05.Name
  refine ACalls.of_awp (n := 47) (rs := [.tmp 2]) Tryz.func46 rfl Tryz.ntmps46 rfl ?_
  repeat' (first
    | refine AWP.seqk fun K hK => ?_
    | (refine AWP.region ?_; simp only [go_sem])
    | (refine hK _ ?_; clear hK K)
    | refine AWP.block ?_
    | refine AWP.cond rfl (fun c => ?_) (fun c => ?_) <;> first | exact Bool.noConfusion c | (try simp only [dD] at c)
    | refine AWP.skip ?_
    | (refine AWP.exit ?_; simp only [go_sem])
    | (refine AGuard.splitN (fun h => ?_) (fun h => ?_) <;> simp only [h, go_sem] <;> (try simp only [dD] at h))
    | (refine AGuard.split (fun h => ?_) (fun h => ?_) <;> simp only [h, go_sem] <;> (try simp only [dD] at h))
    | (refine AGet.haveM (by assumption) ?_; (try simp only [go_sem]))
    | (refine AGet.have' (by assumption) ?_; (try simp only [go_sem]))
    | ((first | refine AGet.nth ?_ (fun b hb => ?_) | refine AGet.nth1 ?_ (fun b hb => ?_) | with_reducible refine And.intro ?_ ?_); (focus (first | omega | assumption | exact List.length_pos_iff.2 (by assumption) | (simp only [List.length_append, List.length_cons, List.length_nil, List.length_map, List.length_take, List.length_drop] at *; omega) | (rw [wrap64_id (by omega) (by omega)]; omega) | (simp; done) | (simp [spare_len]; done) | (exact ⟨by omega, by omega⟩))); (try simp only [hb, go_sem]))
    | (
        refine AWP.here 2 5 4 rfl ?_
        refine AWP.loopN (ι := Nat) [2, 4, 5, 6, 7, 8, 9, 10, 11, 12, 13, 14, 15, 16, 17, 18, 19, 20, 21, 22, 23, 24, 25, 26, 27, 28, 29, 30, 31, 32, 33, 34, 35, 36, 37, 38] (fun (i : Nat) => [(3, i64 i)]) (fun (i : Nat) => i ≤ s.length ∧ (s.take i).all isName = true) (fun (i : Nat) => s.length - i) (0) ?_ ?_ ?_
        · (try simp only [go_sem]); (repeat' (first | refine And.intro ?_ ?_ | exact .inl rfl | exact .inr rfl | exact .inr ⟨rfl, rfl⟩ | trivial | exact .inr (oblA rfl) | exact .inr ⟨rfl, oblA rfl⟩ | exact .inr bel_strs | exact .inr ⟨rfl, bel_strs⟩ | exact .inr ⟨by simp, bel_strs⟩ | (simp; done) | exact .inr ⟨rfl, by simp⟩ | exact .inr ⟨by simp, by simp⟩)); done
        · exact ⟨by omega, by simp⟩
        rintro i ⟨h1, h2⟩
        simp only [go_sem])
    | (
        refine ⟨i + 1, ?_, ?_, ?_⟩
        · (try simp only [go_sem]); (try rw [wrap64_id (by omega) (by omega)]); (repeat' (first | refine And.intro ?_ ?_ | exact .inl rfl | exact .inr rfl | exact .inr ⟨rfl, rfl⟩ | trivial | exact .inr (oblA rfl) | exact .inr ⟨rfl, oblA rfl⟩ | exact .inr bel_strs | exact .inr ⟨rfl, bel_strs⟩ | exact .inr ⟨by simp, bel_strs⟩ | (simp; done) | exact .inr ⟨rfl, by simp⟩ | exact .inr ⟨by simp, by simp⟩)); done
        · exact ⟨by omega, Go.Bk.all_next hb h2 (by simp only [isName]; simp; omega)⟩
        · (try simp only []); omega)
    | (
        refine AWP.ret ?_
        refine AEnd.is ?_; simp only [go_sem, out_v, out_s, out_n, v_int, v_bool, v_str] <;> (first
        | (rw [name_no2 hb (by simp only [isName]; simp; omega)]; done)
        | (rw [List.take_of_length_le (by omega)] at h2; rw [Bool.eq_iff_iff]; simp [nameB, h2]; omega)))
    | refine AWP.fin (by assumption) ?_
    | fail)

set_option maxHeartbeats 4000000 in
set_option maxRecDepth 8000 in
theorem r5exec_c (x : Ex) (hx : exOk x) : ACalls E 48 [exV x] (fun r t => r = bl (execB x) ∧ t = []) := by -- checkroll/checkrollref05.Exec
  obtain ⟨hs1, hs2, hs3, hs4, hs5⟩ := hx
  refine ACalls.of_awp (n := 68) (rs := [.tmp 2]) Tryz.func48 rfl Tryz.ntmps48 rfl ?_
  repeat' (first
    | refine AWP.seqk fun K hK => ?_
    | (refine AWP.region ?_; simp only [go_sem])
    | (refine hK _ ?_; clear hK K)
    | refine AWP.block ?_
    | refine AWP.cond rfl (fun c => ?_) (fun c => ?_) <;> first | exact Bool.noConfusion c | (try simp only [dD] at c)
    | refine AWP.skip ?_
    | (refine AWP.exit ?_; simp only [go_sem])
    | (refine ACall.one (r5name_c _ (by assumption)) (by kernel_rfl) rfl ?_; simp only [go_sem])
    | (refine ACall.one (r5small_c _) (by kernel_rfl) rfl ?_; simp only [go_sem])
    | (refine ACall.one (r5time_c _) (by kernel_rfl) rfl ?_; simp only [go_sem])
    | (refine AGuard.splitN (fun h => ?_) (fun h => ?_) <;> simp only [h, go_sem] <;> (try simp only [dD] at h))
    | (refine AGuard.split (fun h => ?_) (fun h => ?_) <;> simp only [h, go_sem] <;> (try simp only [dD] at h))
    | (refine AGet.haveM (by assumption) ?_; (try simp only [go_sem]))
    | (refine AGet.have' (by assumption) ?_; (try simp only [go_sem]))
    | ((first | refine AGet.nth ?_ (fun b hb => ?_) | refine AGet.nth1 ?_ (fun b hb => ?_) | with_reducible refine And.intro ?_ ?_); (focus (first | omega | assumption | exact List.length_pos_iff.2 (by assumption) | (simp only [List.length_append, List.length_cons, List.length_nil, List.length_map, List.length_take, List.length_drop] at *; omega) | (rw [wrap64_id (by omega) (by omega)]; omega) | (simp; done) | (simp [spare_len]; done) | (exact ⟨by omega, by omega⟩))); (try simp only [hb, go_sem]))
    | (
        refine AWP.ret ?_
        refine AEnd.is ?_; simp only [go_sem, out_v, out_s, out_n, v_int, v_bool, v_str] <;> (first | (simp_all [execB]; done) | (rw [exec_kind (by omega)]; done) | (rw [exec_oth (by omega) (by omega)]; simp [*]; done)))
    | refine AWP.fin (by assumption) ?_
    | fail)

end Go.Proofs.YtfchlkeekmabfaaGreatDoor
end
section
namespace Go.Proofs.YtfchlkeekmabfaaGreatDoor
open Go Go.Abs Go.RowKit Go.Fld
set_option linter.unusedVariables false
set_option linter.unusedSimpArgs false

theorem r1parse_c (s : Bs) : ACalls E 50 [str s] (fun r t => r = .tup [i64 (parseF s).1, i64 (parseF s).2] ∧ t = []) := by -- checkroll/checkrollref01.Parse
  have hsg := (sg_drop s).2
  refine ACalls.of_awp (n := 76) (rs := [.tmp 2, .tmp 3]) Tryz.func50 rfl Tryz.ntmps50 rfl ?_
  refine AWP.seqk fun K1 hK1 => ?_
  refine AWP.region ?_
  simp only [go_sem] -- region 0
  repeat' (first | (refine AGet.haveM (by assumption) ?_; (try simp only [go_sem])) | (refine AGet.have' (by assumption) ?_; (try simp only [go_sem])) | ((first | refine AGet.nth ?_ (fun b hb => ?_) | refine AGet.nth1 ?_ (fun b hb => ?_) | with_reducible refine And.intro ?_ ?_); (focus ((first | omega | exact List.length_pos_iff.2 (by assumption) | (simp only [List.length_append, List.length_cons, List.length_nil, List.length_map, List.length_take, List.length_drop] at *; omega) | (rw [wrap64_id (by omega) (by omega)]; omega) | (simp; done)))); (try simp only [hb, go_sem])))
  refine hK1 _ ?_; clear hK1 K1
  refine AWP.seqk fun K2 hK2 => ?_
  refine AWP.seqk fun K3 hK3 => ?_
  refine AWP.region ?_
  simp only [go_sem] -- region 1
  repeat' (first | (refine AGet.haveM (by assumption) ?_; (try simp only [go_sem])) | (refine AGet.have' (by assumption) ?_; (try simp only [go_sem])) | ((first | refine AGet.nth ?_ (fun b hb => ?_) | refine AGet.nth1 ?_ (fun b hb => ?_) | with_reducible refine And.intro ?_ ?_); (focus ((first | omega | exact List.length_pos_iff.2 (by assumption) | (simp only [List.length_append, List.length_cons, List.length_nil, List.length_map, List.length_take, List.length_drop] at *; omega) | (rw [wrap64_id (by omega) (by omega)]; omega) | (simp; done)))); (try simp only [hb, go_sem])))
  refine hK3 _ ?_; clear hK3 K3
  refine AWP.cond rfl (fun c10 => ?_) (fun c10 => ?_)
  · first | exact Bool.noConfusion c10 | (
      try simp only [dD] at c10
      refine AWP.seqk fun K4 hK4 => ?_
      refine AWP.region ?_
      simp only [go_sem] -- region 2
      repeat' (first | (refine AGet.haveM (by assumption) ?_; (try simp only [go_sem])) | (refine AGet.have' (by assumption) ?_; (try simp only [go_sem])) | ((first | refine AGet.nth ?_ (fun b hb => ?_) | refine AGet.nth1 ?_ (fun b hb => ?_) | with_reducible refine And.intro ?_ ?_); (focus ((first | omega | exact List.length_pos_iff.2 (by assumption) | (simp only [List.length_append, List.length_cons, List.length_nil, List.length_map, List.length_take, List.length_drop] at *; omega) | (rw [wrap64_id (by omega) (by omega)]; omega) | (simp; done)))); (try simp only [hb, go_sem])))
      refine hK4 _ ?_; clear hK4 K4
      refine AWP.ret ?_
      try simp only [go_sem]
      clear hK2 K2
      first
      | exact ⟨[], .tup [.v _, .v _], rfl, ⟨rfl, rfl, trivial⟩, tupP (parse_long (by omega)), rfl⟩
      | exact ⟨[], .tup [.v _, .v _], rfl, ⟨rfl, rfl, trivial⟩, tupP (parse_form (by omega) (r1_yes1 hJ (by assumption))), rfl⟩
      | exact ⟨[], .tup [.v _, .v _], rfl, ⟨rfl, rfl, trivial⟩, tupP (parse_form (by omega) (r1_yes2 hJ hb (by assumption) (by assumption))), rfl⟩
      | exact ⟨[], .tup [.v _, .v _], rfl, ⟨rfl, rfl, trivial⟩, tupP (parse_dig (by omega) (all_not (r1_get hJ hb) (.inl (by assumption)))), rfl⟩
      | exact ⟨[], .tup [.v _, .v _], rfl, ⟨rfl, rfl, trivial⟩, tupP (parse_dig (by omega) (all_not (r1_get hJ hb) (.inr (by assumption)))), rfl⟩
      | (have he := r1_end hJ h1 c38
         rw [he] at h2 h3 h4
         exact ⟨[], .tup [.v _, .v _], rfl, ⟨rfl, rfl, trivial⟩, tupP (parse_over (by omega) hF h2 (h4 (by assumption))), rfl⟩)
      | (have he := r1_end hJ h1 c38
         rw [he] at h2 h3 h4
         exact ⟨[], .tup [.v _, .v _], rfl, ⟨rfl, rfl, trivial⟩, tupP (parse_over (by omega) hF h2 (by have := (h3 (by assumption)).1; omega)), rfl⟩)
      | (have he := r1_end hJ h1 c38
         rw [he] at h2 h3 h4
         have hn := (h3 (by assumption)).1
         have hw := wrapn c68
         simp only [hw.1, hw.2]
         have ho := parse_ok (l := s) (by omega) hF h2 (by omega)
         rw [← hn] at ho
         first
         | (rw [if_pos (sg_yes hJ c70)] at ho
            exact ⟨[], .tup [.v _, .v _], rfl, ⟨rfl, rfl, trivial⟩, tupP ho, rfl⟩)
         | (rw [if_neg (by rw [sg_no hJ c70]; simp)] at ho
            exact ⟨[], .tup [.v _, .v _], rfl, ⟨rfl, rfl, trivial⟩, tupP ho, rfl⟩)))
  · first | exact Bool.noConfusion c10 | (
      try simp only [dD] at c10
      refine AWP.skip ?_
      refine hK2 _ ?_; clear hK2 K2
      refine AWP.seqk fun K5 hK5 => ?_
      refine AWP.region ?_
      simp only [go_sem] -- region 3
      repeat' (first | (refine AGet.haveM (by assumption) ?_; (try simp only [go_sem])) | (refine AGet.have' (by assumption) ?_; (try simp only [go_sem])) | ((first | refine AGet.nth ?_ (fun b hb => ?_) | refine AGet.nth1 ?_ (fun b hb => ?_) | with_reducible refine And.intro ?_ ?_); (focus ((first | omega | exact List.length_pos_iff.2 (by assumption) | (simp only [List.length_append, List.length_cons, List.length_nil, List.length_map, List.length_take, List.length_drop] at *; omega) | (rw [wrap64_id (by omega) (by omega)]; omega) | (simp; done)))); (try simp only [hb, go_sem])))
      refine hK5 _ ?_; clear hK5 K5
      refine AWP.seqJ (ι := Nat) [11, 12, 13, 14, 15, 16, 17, 18] (fun (i0 : Nat) => [(4, i64 i0)]) (fun (i0 : Nat) => []) (fun (i0 : Nat) => []) (fun (i0 : Nat) => i0 = sg s) ?_ ?_
      · refine AWP.seqk fun K6 hK6 => ?_
        refine AWP.region ?_
        simp only [go_sem] -- region 4
        repeat' (first | (refine AGuard.splitN (fun h => ?_) (fun h => ?_) <;> simp only [h, go_sem] <;> try simp only [dD] at h) | (refine AGuard.split (fun h => ?_) (fun h => ?_) <;> simp only [h, go_sem] <;> try simp only [dD] at h) | (refine AGet.haveM (by assumption) ?_; (try simp only [go_sem])) | (refine AGet.have' (by assumption) ?_; (try simp only [go_sem])) | ((first | refine AGet.nth ?_ (fun b hb => ?_) | refine AGet.nth1 ?_ (fun b hb => ?_) | with_reducible refine And.intro ?_ ?_); (focus ((first | omega | exact List.length_pos_iff.2 (by assumption) | (simp only [List.length_append, List.length_cons, List.length_nil, List.length_map, List.length_take, List.length_drop] at *; omega) | (rw [wrap64_id (by omega) (by omega)]; omega) | (simp; done)))); (try simp only [hb, go_sem])))
        all_goals (
          refine hK6 _ ?_; clear hK6 K6
          refine AWP.cond rfl (fun c18 => ?_) (fun c18 => ?_)
          · first | exact Bool.noConfusion c18 | (
              try simp only [dD] at c18
              refine AWP.region ?_
              simp only [go_sem] -- region 5
              repeat' (first | (refine AGet.haveM (by assumption) ?_; (try simp only [go_sem])) | (refine AGet.have' (by assumption) ?_; (try simp only [go_sem])) | ((first | refine AGet.nth ?_ (fun b hb => ?_) | refine AGet.nth1 ?_ (fun b hb => ?_) | with_reducible refine And.intro ?_ ?_); (focus ((first | omega | exact List.length_pos_iff.2 (by assumption) | (simp only [List.length_append, List.length_cons, List.length_nil, List.length_map, List.length_take, List.length_drop] at *; omega) | (rw [wrap64_id (by omega) (by omega)]; omega) | (simp; done)))); (try simp only [hb, go_sem])))
              first
              | (refine ⟨1, ?_, ?_⟩
                 · exact (sg_one (by assumption) (by assumption)).symm
                 · (try simp only [go_sem]); (try simp); done)
              | (refine ⟨0, ?_, ?_⟩
                 · first | exact (sg_zero1 (by omega)).symm | exact (sg_zero2 (by assumption) (by assumption)).symm
                 · (try simp only [go_sem]); (try simp); done))
          · first | exact Bool.noConfusion c18 | (
              try simp only [dD] at c18
              refine AWP.skip ?_
              first
              | (refine ⟨1, ?_, ?_⟩
                 · exact (sg_one (by assumption) (by assumption)).symm
                 · (try simp only [go_sem]); (try simp); done)
              | (refine ⟨0, ?_, ?_⟩
                 · first | exact (sg_zero1 (by omega)).symm | exact (sg_zero2 (by assumption) (by assumption)).symm
                 · (try simp only [go_sem]); (try simp); done)))
      rintro i0 hJ
      simp only [go_sem]
      refine AWP.seqJ (ι := Unit) [2, 3, 19, 20, 21, 22, 23, 24, 25, 26, 27, 28, 29, 30, 31, 32, 33] (fun (c : Unit) => []) (fun (c : Unit) => []) (fun (c : Unit) => []) (fun (c : Unit) => ¬ ((signed s).1 = [] ∨ ((signed s).1.head? = some 48 ∧ 1 < s.length))) ?_ ?_
      · refine AWP.seqk fun K7 hK7 => ?_
        refine AWP.region ?_
        simp only [go_sem] -- region 6
        repeat' (first | (refine AGuard.splitN (fun h => ?_) (fun h => ?_) <;> simp only [h, go_sem] <;> try simp only [dD] at h) | (refine AGuard.split (fun h => ?_) (fun h => ?_) <;> simp only [h, go_sem] <;> try simp only [dD] at h) | (refine AGet.haveM (by assumption) ?_; (try simp only [go_sem])) | (refine AGet.have' (by assumption) ?_; (try simp only [go_sem])) | ((first | refine AGet.nth ?_ (fun b hb => ?_) | refine AGet.nth1 ?_ (fun b hb => ?_) | with_reducible refine And.intro ?_ ?_); (focus ((first | omega | exact List.length_pos_iff.2 (by assumption) | (simp only [List.length_append, List.length_cons, List.length_nil, List.length_map, List.length_take, List.length_drop] at *; omega) | (rw [wrap64_id (by omega) (by omega)]; omega) | (simp; done)))); (try simp only [hb, go_sem])))
        all_goals (
          refine hK7 _ ?_; clear hK7 K7
          refine AWP.cond rfl (fun c33 => ?_) (fun c33 => ?_)
          · first | exact Bool.noConfusion c33 | (
              try simp only [dD] at c33
              refine AWP.seqk fun K8 hK8 => ?_
              refine AWP.region ?_
              simp only [go_sem] -- region 7
              repeat' (first | (refine AGet.haveM (by assumption) ?_; (try simp only [go_sem])) | (refine AGet.have' (by assumption) ?_; (try simp only [go_sem])) | ((first | refine AGet.nth ?_ (fun b hb => ?_) | refine AGet.nth1 ?_ (fun b hb => ?_) | with_reducible refine And.intro ?_ ?_); (focus ((first | omega | exact List.length_pos_iff.2 (by assumption) | (simp only [List.length_append, List.length_cons, List.length_nil, List.length_map, List.length_take, List.length_drop] at *; omega) | (rw [wrap64_id (by omega) (by omega)]; omega) | (simp; done)))); (try simp only [hb, go_sem])))
              refine hK8 _ ?_; clear hK8 K8
              refine AWP.ret ?_
              try simp only [go_sem]
              first
              | exact ⟨[], .tup [.v _, .v _], rfl, ⟨rfl, rfl, trivial⟩, tupP (parse_long (by omega)), rfl⟩
              | exact ⟨[], .tup [.v _, .v _], rfl, ⟨rfl, rfl, trivial⟩, tupP (parse_form (by omega) (r1_yes1 hJ (by assumption))), rfl⟩
              | exact ⟨[], .tup [.v _, .v _], rfl, ⟨rfl, rfl, trivial⟩, tupP (parse_form (by omega) (r1_yes2 hJ hb (by assumption) (by assumption))), rfl⟩
              | exact ⟨[], .tup [.v _, .v _], rfl, ⟨rfl, rfl, trivial⟩, tupP (parse_dig (by omega) (all_not (r1_get hJ hb) (.inl (by assumption)))), rfl⟩
              | exact ⟨[], .tup [.v _, .v _], rfl, ⟨rfl, rfl, trivial⟩, tupP (parse_dig (by omega) (all_not (r1_get hJ hb) (.inr (by assumption)))), rfl⟩
              | (have he := r1_end hJ h1 c38
                 rw [he] at h2 h3 h4
                 exact ⟨[], .tup [.v _, .v _], rfl, ⟨rfl, rfl, trivial⟩, tupP (parse_over (by omega) hF h2 (h4 (by assumption))), rfl⟩)
              | (have he := r1_end hJ h1 c38
                 rw [he] at h2 h3 h4
                 exact ⟨[], .tup [.v _, .v _], rfl, ⟨rfl, rfl, trivial⟩, tupP (parse_over (by omega) hF h2 (by have := (h3 (by assumption)).1; omega)), rfl⟩)
              | (have he := r1_end hJ h1 c38
                 rw [he] at h2 h3 h4
                 have hn := (h3 (by assumption)).1
                 have hw := wrapn c68
                 simp only [hw.1, hw.2]
                 have ho := parse_ok (l := s) (by omega) hF h2 (by omega)
                 rw [← hn] at ho
                 first
                 | (rw [if_pos (sg_yes hJ c70)] at ho
                    exact ⟨[], .tup [.v _, .v _], rfl, ⟨rfl, rfl, trivial⟩, tupP ho, rfl⟩)
                 | (rw [if_neg (by rw [sg_no hJ c70]; simp)] at ho
                    exact ⟨[], .tup [.v _, .v _], rfl, ⟨rfl, rfl, trivial⟩, tupP ho, rfl⟩)))
          · first | exact Bool.noConfusion c33 | (
              try simp only [dD] at c33
              refine AWP.skip ?_
              refine ⟨(), ?_, ?_⟩
              · first | exact r1_no hJ hb (.inl (by assumption)) | exact r1_no hJ hb (.inr (by assumption))
              · (try simp only [go_sem]); (try simp); done))
      rintro c hF
      simp only [go_sem]
      refine AWP.seqk fun K9 hK9 => ?_
      refine AWP.region ?_
      simp only [go_sem] -- region 8
      repeat' (first | (refine AGet.haveM (by assumption) ?_; (try simp only [go_sem])) | (refine AGet.have' (by assumption) ?_; (try simp only [go_sem])) | ((first | refine AGet.nth ?_ (fun b hb => ?_) | refine AGet.nth1 ?_ (fun b hb => ?_) | with_reducible refine And.intro ?_ ?_); (focus ((first | omega | exact List.length_pos_iff.2 (by assumption) | (simp only [List.length_append, List.length_cons, List.length_nil, List.length_map, List.length_take, List.length_drop] at *; omega) | (rw [wrap64_id (by omega) (by omega)]; omega) | (simp; done)))); (try simp only [hb, go_sem])))
      refine hK9 _ ?_; clear hK9 K9
      refine AWP.seqk fun K10 hK10 => ?_
      refine AWP.region ?_
      simp only [go_sem] -- region 9
      repeat' (first | (refine AGet.haveM (by assumption) ?_; (try simp only [go_sem])) | (refine AGet.have' (by assumption) ?_; (try simp only [go_sem])) | ((first | refine AGet.nth ?_ (fun b hb => ?_) | refine AGet.nth1 ?_ (fun b hb => ?_) | with_reducible refine And.intro ?_ ?_); (focus ((first | omega | exact List.length_pos_iff.2 (by assumption) | (simp only [List.length_append, List.length_cons, List.length_nil, List.length_map, List.length_take, List.length_drop] at *; omega) | (rw [wrap64_id (by omega) (by omega)]; omega) | (simp; done)))); (try simp only [hb, go_sem])))
      refine hK10 _ ?_; clear hK10 K10
      refine AWP.seqk fun K11 hK11 => ?_
      refine AWP.seqk fun K12 hK12 => ?_
      refine AWP.region ?_
      simp only [go_sem] -- region 10
      repeat' (first | (refine AGet.haveM (by assumption) ?_; (try simp only [go_sem])) | (refine AGet.have' (by assumption) ?_; (try simp only [go_sem])) | ((first | refine AGet.nth ?_ (fun b hb => ?_) | refine AGet.nth1 ?_ (fun b hb => ?_) | with_reducible refine And.intro ?_ ?_); (focus ((first | omega | exact List.length_pos_iff.2 (by assumption) | (simp only [List.length_append, List.length_cons, List.length_nil, List.length_map, List.length_take, List.length_drop] at *; omega) | (rw [wrap64_id (by omega) (by omega)]; omega) | (simp; done)))); (try simp only [hb, go_sem])))
      refine hK12 _ ?_; clear hK12 K12
      refine AWP.block ?_ -- 0
      refine AWP.loopH (ι := Nat × Nat × Bool) [2, 3, 35, 36, 37, 38, 39, 40, 41, 42, 43, 44, 45, 46, 47, 48, 49, 50, 51, 52, 53, 54, 55, 56, 57, 58, 59, 60, 61, 62, 63] (fun ⟨j, n, ov⟩ => [(7, i64 ((i0 + j : Nat) : Int)), (5, .v (.int .u64 n)), (6, bl ov)]) (fun ⟨j, n, ov⟩ => j ≤ (signed s).1.length ∧ ((signed s).1.take j).all isDig = true ∧ (ov = false → n = decVal 0 ((signed s).1.take j) ∧ n ≤ 4611686018427387909) ∧ (ov = true → 4611686018427387904 < decVal 0 ((signed s).1.take j))) (fun ⟨j, n, ov⟩ => (signed s).1.length - j) ((0, 0, false)) ?_ ?_ ?_
      · (try simp only [go_sem]); try (simp; done)
      · simp [decVal_nil]
      rintro ⟨j, n, ov⟩ ⟨h1, h2, h3, h4⟩
      simp only [go_sem]
      refine AWP.seqk fun K13 hK13 => ?_
      refine AWP.seqk fun K14 hK14 => ?_
      refine AWP.region ?_
      simp only [go_sem] -- region 11
      repeat' (first | (refine AGet.haveM (by assumption) ?_; (try simp only [go_sem])) | (refine AGet.have' (by assumption) ?_; (try simp only [go_sem])) | ((first | refine AGet.nth ?_ (fun b hb => ?_) | refine AGet.nth1 ?_ (fun b hb => ?_) | with_reducible refine And.intro ?_ ?_); (focus ((first | omega | exact List.length_pos_iff.2 (by assumption) | (simp only [List.length_append, List.length_cons, List.length_nil, List.length_map, List.length_take, List.length_drop] at *; omega) | (rw [wrap64_id (by omega) (by omega)]; omega) | (simp; done)))); (try simp only [hb, go_sem])))
      refine hK14 _ ?_; clear hK14 K14
      refine AWP.cond rfl (fun c38 => ?_) (fun c38 => ?_)
      · first | exact Bool.noConfusion c38 | (
          try simp only [dD] at c38
          refine AWP.skip ?_
          refine hK13 _ ?_; clear hK13 K13
          refine AWP.seqk fun K15 hK15 => ?_
          refine AWP.block ?_ -- 1
          refine AWP.seqk fun K16 hK16 => ?_
          refine AWP.seqk fun K17 hK17 => ?_
          refine AWP.region ?_
          simp only [go_sem] -- region 13
          repeat' (first | (refine AGuard.splitN (fun h => ?_) (fun h => ?_) <;> simp only [h, go_sem] <;> try simp only [dD] at h) | (refine AGuard.split (fun h => ?_) (fun h => ?_) <;> simp only [h, go_sem] <;> try simp only [dD] at h) | (refine AGet.haveM (by assumption) ?_; (try simp only [go_sem])) | (refine AGet.have' (by assumption) ?_; (try simp only [go_sem])) | ((first | refine AGet.nth ?_ (fun b hb => ?_) | refine AGet.nth1 ?_ (fun b hb => ?_) | with_reducible refine And.intro ?_ ?_); (focus ((first | omega | exact List.length_pos_iff.2 (by assumption) | (simp only [List.length_append, List.length_cons, List.length_nil, List.length_map, List.length_take, List.length_drop] at *; omega) | (rw [wrap64_id (by omega) (by omega)]; omega) | (simp; done)))); (try simp only [hb, go_sem])))
          all_goals (
            refine hK17 _ ?_; clear hK17 K17
            refine AWP.cond rfl (fun c50 => ?_) (fun c50 => ?_)
            · first | exact Bool.noConfusion c50 | (
                try simp only [dD] at c50
                refine AWP.seqk fun K18 hK18 => ?_
                refine AWP.region ?_
                simp only [go_sem] -- region 14
                repeat' (first | (refine AGet.haveM (by assumption) ?_; (try simp only [go_sem])) | (refine AGet.have' (by assumption) ?_; (try simp only [go_sem])) | ((first | refine AGet.nth ?_ (fun b hb => ?_) | refine AGet.nth1 ?_ (fun b hb => ?_) | with_reducible refine And.intro ?_ ?_); (focus ((first | omega | exact List.length_pos_iff.2 (by assumption) | (simp only [List.length_append, List.length_cons, List.length_nil, List.length_map, List.length_take, List.length_drop] at *; omega) | (rw [wrap64_id (by omega) (by omega)]; omega) | (simp; done)))); (try simp only [hb, go_sem])))
                refine hK18 _ ?_; clear hK18 K18
                refine AWP.ret ?_
                try simp only [go_sem]
                clear hK16 K16 hK15 K15 hK11 K11
                first
                | exact ⟨[], .tup [.v _, .v _], rfl, ⟨rfl, rfl, trivial⟩, tupP (parse_long (by omega)), rfl⟩
                | exact ⟨[], .tup [.v _, .v _], rfl, ⟨rfl, rfl, trivial⟩, tupP (parse_form (by omega) (r1_yes1 hJ (by assumption))), rfl⟩
                | exact ⟨[], .tup [.v _, .v _], rfl, ⟨rfl, rfl, trivial⟩, tupP (parse_form (by omega) (r1_yes2 hJ hb (by assumption) (by assumption))), rfl⟩
                | exact ⟨[], .tup [.v _, .v _], rfl, ⟨rfl, rfl, trivial⟩, tupP (parse_dig (by omega) (all_not (r1_get hJ hb) (.inl (by assumption)))), rfl⟩
                | exact ⟨[], .tup [.v _, .v _], rfl, ⟨rfl, rfl, trivial⟩, tupP (parse_dig (by omega) (all_not (r1_get hJ hb) (.inr (by assumption)))), rfl⟩
                | (have he := r1_end hJ h1 c38
                   rw [he] at h2 h3 h4
                   exact ⟨[], .tup [.v _, .v _], rfl, ⟨rfl, rfl, trivial⟩, tupP (parse_over (by omega) hF h2 (h4 (by assumption))), rfl⟩)
                | (have he := r1_end hJ h1 c38
                   rw [he] at h2 h3 h4
                   exact ⟨[], .tup [.v _, .v _], rfl, ⟨rfl, rfl, trivial⟩, tupP (parse_over (by omega) hF h2 (by have := (h3 (by assumption)).1; omega)), rfl⟩)
                | (have he := r1_end hJ h1 c38
                   rw [he] at h2 h3 h4
                   have hn := (h3 (by assumption)).1
                   have hw := wrapn c68
                   simp only [hw.1, hw.2]
                   have ho := parse_ok (l := s) (by omega) hF h2 (by omega)
                   rw [← hn] at ho
                   first
                   | (rw [if_pos (sg_yes hJ c70)] at ho
                      exact ⟨[], .tup [.v _, .v _], rfl, ⟨rfl, rfl, trivial⟩, tupP ho, rfl⟩)
                   | (rw [if_neg (by rw [sg_no hJ c70]; simp)] at ho
                      exact ⟨[], .tup [.v _, .v _], rfl, ⟨rfl, rfl, trivial⟩, tupP ho, rfl⟩)))
            · first | exact Bool.noConfusion c50 | (
                try simp only [dD] at c50
                refine AWP.skip ?_
                refine hK16 _ ?_; clear hK16 K16
                refine AWP.seqk fun K19 hK19 => ?_
                refine AWP.seqk fun K20 hK20 => ?_
                refine AWP.region ?_
                simp only [go_sem] -- region 15
                repeat' (first | (refine AGuard.splitN (fun h => ?_) (fun h => ?_) <;> simp only [h, go_sem] <;> try simp only [dD] at h) | (refine AGuard.split (fun h => ?_) (fun h => ?_) <;> simp only [h, go_sem] <;> try simp only [dD] at h) | (refine AGet.haveM (by assumption) ?_; (try simp only [go_sem])) | (refine AGet.have' (by assumption) ?_; (try simp only [go_sem])) | ((first | refine AGet.nth ?_ (fun b hb => ?_) | refine AGet.nth1 ?_ (fun b hb => ?_) | with_reducible refine And.intro ?_ ?_); (focus ((first | omega | exact List.length_pos_iff.2 (by assumption) | (simp only [List.length_append, List.length_cons, List.length_nil, List.length_map, List.length_take, List.length_drop] at *; omega) | (rw [wrap64_id (by omega) (by omega)]; omega) | (simp; done)))); (try simp only [hb, go_sem])))
                all_goals (
                  refine hK20 _ ?_; clear hK20 K20
                  refine AWP.cond rfl (fun c55 => ?_) (fun c55 => ?_)
                  · first | exact Bool.noConfusion c55 | (
                      try simp only [dD] at c55
                      refine AWP.seqk fun K21 hK21 => ?_
                      refine AWP.region ?_
                      simp only [go_sem] -- region 16
                      repeat' (first | (refine AGet.haveM (by assumption) ?_; (try simp only [go_sem])) | (refine AGet.have' (by assumption) ?_; (try simp only [go_sem])) | ((first | refine AGet.nth ?_ (fun b hb => ?_) | refine AGet.nth1 ?_ (fun b hb => ?_) | with_reducible refine And.intro ?_ ?_); (focus ((first | omega | exact List.length_pos_iff.2 (by assumption) | (simp only [List.length_append, List.length_cons, List.length_nil, List.length_map, List.length_take, List.length_drop] at *; omega) | (rw [wrap64_id (by omega) (by omega)]; omega) | (simp; done)))); (try simp only [hb, go_sem])))
                      refine hK21 _ ?_; clear hK21 K21
                      refine AWP.exit ?_
                      simp only [go_sem]
                      clear hK19 K19
                      refine hK15 _ ?_; clear hK15 K15
                      refine AWP.region ?_
                      simp only [go_sem] -- region 12
                      repeat' (first | (refine AGet.haveM (by assumption) ?_; (try simp only [go_sem])) | (refine AGet.have' (by assumption) ?_; (try simp only [go_sem])) | ((first | refine AGet.nth ?_ (fun b hb => ?_) | refine AGet.nth1 ?_ (fun b hb => ?_) | with_reducible refine And.intro ?_ ?_); (focus ((first | omega | exact List.length_pos_iff.2 (by assumption) | (simp only [List.length_append, List.length_cons, List.length_nil, List.length_map, List.length_take, List.length_drop] at *; omega) | (rw [wrap64_id (by omega) (by omega)]; omega) | (simp; done)))); (try simp only [hb, go_sem])))
                      clear hK11 K11
                      have hb' := r1_get hJ hb
                      have hlt := get_lt hb'
                      have hd := all_next hb' h2 (by assumption) c50
                      first
                      | (have hov := h4 (by assumption)
                         refine ⟨(j + 1, n, true), ?_, ⟨hlt, hd, fun e => Bool.noConfusion e, fun _ => r1_over1 hb' hov⟩, (show (signed s).1.length - (j + 1) < (signed s).1.length - j by omega)⟩
                         rw [wrap64_id (by omega) (by omega)]; simp [(by assumption : ov = true)]; try omega)
                      | (obtain ⟨hn, hn2⟩ := h3 (by assumption)
                         refine ⟨(j + 1, n, true), ?_, ⟨hlt, hd, fun e => Bool.noConfusion e, fun _ => r1_over2 hb' hn c55⟩, (show (signed s).1.length - (j + 1) < (signed s).1.length - j by omega)⟩
                         rw [wrap64_id (by omega) (by omega)]; simp; try omega)
                      | (obtain ⟨hn, hn2⟩ := h3 (by assumption)
                         refine ⟨(j + 1, n * 10 + (b.toNat - 48), false), ?_, ⟨hlt, hd, fun _ => ⟨by rw [val_next hb', hn], (show n * 10 + (b.toNat - 48) ≤ 4611686018427387909 by omega)⟩, fun e => Bool.noConfusion e⟩, (show (signed s).1.length - (j + 1) < (signed s).1.length - j by omega)⟩
                         rw [wrap64_id (by omega) (by omega), r1_add (by assumption) (by assumption) (by assumption)]; simp; try omega))
                  · first | exact Bool.noConfusion c55 | (
                      try simp only [dD] at c55
                      refine AWP.skip ?_
                      refine hK19 _ ?_; clear hK19 K19
                      refine AWP.region ?_
                      simp only [go_sem] -- region 17
                      repeat' (first | (refine AGet.haveM (by assumption) ?_; (try simp only [go_sem])) | (refine AGet.have' (by assumption) ?_; (try simp only [go_sem])) | ((first | refine AGet.nth ?_ (fun b hb => ?_) | refine AGet.nth1 ?_ (fun b hb => ?_) | with_reducible refine And.intro ?_ ?_); (focus ((first | omega | exact List.length_pos_iff.2 (by assumption) | (simp only [List.length_append, List.length_cons, List.length_nil, List.length_map, List.length_take, List.length_drop] at *; omega) | (rw [wrap64_id (by omega) (by omega)]; omega) | (simp; done)))); (try simp only [hb, go_sem])))
                      refine hK15 _ ?_; clear hK15 K15
                      refine AWP.region ?_
                      simp only [go_sem] -- region 12
                      repeat' (first | (refine AGet.haveM (by assumption) ?_; (try simp only [go_sem])) | (refine AGet.have' (by assumption) ?_; (try simp only [go_sem])) | ((first | refine AGet.nth ?_ (fun b hb => ?_) | refine AGet.nth1 ?_ (fun b hb => ?_) | with_reducible refine And.intro ?_ ?_); (focus ((first | omega | exact List.length_pos_iff.2 (by assumption) | (simp only [List.length_append, List.length_cons, List.length_nil, List.length_map, List.length_take, List.length_drop] at *; omega) | (rw [wrap64_id (by omega) (by omega)]; omega) | (simp; done)))); (try simp only [hb, go_sem])))
                      clear hK11 K11
                      have hb' := r1_get hJ hb
                      have hlt := get_lt hb'
                      have hd := all_next hb' h2 (by assumption) c50
                      first
                      | (have hov := h4 (by assumption)
                         refine ⟨(j + 1, n, true), ?_, ⟨hlt, hd, fun e => Bool.noConfusion e, fun _ => r1_over1 hb' hov⟩, (show (signed s).1.length - (j + 1) < (signed s).1.length - j by omega)⟩
                         rw [wrap64_id (by omega) (by omega)]; simp [(by assumption : ov = true)]; try omega)
                      | (obtain ⟨hn, hn2⟩ := h3 (by assumption)
                         refine ⟨(j + 1, n, true), ?_, ⟨hlt, hd, fun e => Bool.noConfusion e, fun _ => r1_over2 hb' hn c55⟩, (show (signed s).1.length - (j + 1) < (signed s).1.length - j by omega)⟩
                         rw [wrap64_id (by omega) (by omega)]; simp; try omega)
                      | (obtain ⟨hn, hn2⟩ := h3 (by assumption)
                         refine ⟨(j + 1, n * 10 + (b.toNat - 48), false), ?_, ⟨hlt, hd, fun _ => ⟨by rw [val_next hb', hn], (show n * 10 + (b.toNat - 48) ≤ 4611686018427387909 by omega)⟩, fun e => Bool.noConfusion e⟩, (show (signed s).1.length - (j + 1) < (signed s).1.length - j by omega)⟩
                         rw [wrap64_id (by omega) (by omega), r1_add (by assumption) (by assumption) (by assumption)]; simp; try omega))))))
      · first | exact Bool.noConfusion c38 | (
          try simp only [dD] at c38
          refine AWP.exit ?_
          simp only [go_sem]
          clear hK13 K13
          refine hK11 _ ?_; clear hK11 K11
          refine AWP.seqk fun K22 hK22 => ?_
          refine AWP.seqk fun K23 hK23 => ?_
          refine AWP.region ?_
          simp only [go_sem] -- region 18
          repeat' (first | (refine AGuard.splitN (fun h => ?_) (fun h => ?_) <;> simp only [h, go_sem] <;> try simp only [dD] at h) | (refine AGuard.split (fun h => ?_) (fun h => ?_) <;> simp only [h, go_sem] <;> try simp only [dD] at h) | (refine AGet.haveM (by assumption) ?_; (try simp only [go_sem])) | (refine AGet.have' (by assumption) ?_; (try simp only [go_sem])) | ((first | refine AGet.nth ?_ (fun b hb => ?_) | refine AGet.nth1 ?_ (fun b hb => ?_) | with_reducible refine And.intro ?_ ?_); (focus ((first | omega | exact List.length_pos_iff.2 (by assumption) | (simp only [List.length_append, List.length_cons, List.length_nil, List.length_map, List.length_take, List.length_drop] at *; omega) | (rw [wrap64_id (by omega) (by omega)]; omega) | (simp; done)))); (try simp only [hb, go_sem])))
          all_goals (
            refine hK23 _ ?_; clear hK23 K23
            refine AWP.cond rfl (fun c68 => ?_) (fun c68 => ?_)
            · first | exact Bool.noConfusion c68 | (
                try simp only [dD] at c68
                refine AWP.seqk fun K24 hK24 => ?_
                refine AWP.region ?_
                simp only [go_sem] -- region 19
                repeat' (first | (refine AGet.haveM (by assumption) ?_; (try simp only [go_sem])) | (refine AGet.have' (by assumption) ?_; (try simp only [go_sem])) | ((first | refine AGet.nth ?_ (fun b hb => ?_) | refine AGet.nth1 ?_ (fun b hb => ?_) | with_reducible refine And.intro ?_ ?_); (focus ((first | omega | exact List.length_pos_iff.2 (by assumption) | (simp only [List.length_append, List.length_cons, List.length_nil, List.length_map, List.length_take, List.length_drop] at *; omega) | (rw [wrap64_id (by omega) (by omega)]; omega) | (simp; done)))); (try simp only [hb, go_sem])))
                refine hK24 _ ?_; clear hK24 K24
                refine AWP.ret ?_
                try simp only [go_sem]
                clear hK22 K22
                first
                | exact ⟨[], .tup [.v _, .v _], rfl, ⟨rfl, rfl, trivial⟩, tupP (parse_long (by omega)), rfl⟩
                | exact ⟨[], .tup [.v _, .v _], rfl, ⟨rfl, rfl, trivial⟩, tupP (parse_form (by omega) (r1_yes1 hJ (by assumption))), rfl⟩
                | exact ⟨[], .tup [.v _, .v _], rfl, ⟨rfl, rfl, trivial⟩, tupP (parse_form (by omega) (r1_yes2 hJ hb (by assumption) (by assumption))), rfl⟩
                | exact ⟨[], .tup [.v _, .v _], rfl, ⟨rfl, rfl, trivial⟩, tupP (parse_dig (by omega) (all_not (r1_get hJ hb) (.inl (by assumption)))), rfl⟩
                | exact ⟨[], .tup [.v _, .v _], rfl, ⟨rfl, rfl, trivial⟩, tupP (parse_dig (by omega) (all_not (r1_get hJ hb) (.inr (by assumption)))), rfl⟩
                | (have he := r1_end hJ h1 c38
                   rw [he] at h2 h3 h4
                   exact ⟨[], .tup [.v _, .v _], rfl, ⟨rfl, rfl, trivial⟩, tupP (parse_over (by omega) hF h2 (h4 (by assumption))), rfl⟩)
                | (have he := r1_end hJ h1 c38
                   rw [he] at h2 h3 h4
                   exact ⟨[], .tup [.v _, .v _], rfl, ⟨rfl, rfl, trivial⟩, tupP (parse_over (by omega) hF h2 (by have := (h3 (by assumption)).1; omega)), rfl⟩)
                | (have he := r1_end hJ h1 c38
                   rw [he] at h2 h3 h4
                   have hn := (h3 (by assumption)).1
                   have hw := wrapn c68
                   simp only [hw.1, hw.2]
                   have ho := parse_ok (l := s) (by omega) hF h2 (by omega)
                   rw [← hn] at ho
                   first
                   | (rw [if_pos (sg_yes hJ c70)] at ho
                      exact ⟨[], .tup [.v _, .v _], rfl, ⟨rfl, rfl, trivial⟩, tupP ho, rfl⟩)
                   | (rw [if_neg (by rw [sg_no hJ c70]; simp)] at ho
                      exact ⟨[], .tup [.v _, .v _], rfl, ⟨rfl, rfl, trivial⟩, tupP ho, rfl⟩)))
            · first | exact Bool.noConfusion c68 | (
                try simp only [dD] at c68
                refine AWP.skip ?_
                refine hK22 _ ?_; clear hK22 K22
                refine AWP.seqk fun K25 hK25 => ?_
                refine AWP.seqk fun K26 hK26 => ?_
                refine AWP.region ?_
                simp only [go_sem] -- region 20
                repeat' (first | (refine AGet.haveM (by assumption) ?_; (try simp only [go_sem])) | (refine AGet.have' (by assumption) ?_; (try simp only [go_sem])) | ((first | refine AGet.nth ?_ (fun b hb => ?_) | refine AGet.nth1 ?_ (fun b hb => ?_) | with_reducible refine And.intro ?_ ?_); (focus ((first | omega | exact List.length_pos_iff.2 (by assumption) | (simp only [List.length_append, List.length_cons, List.length_nil, List.length_map, List.length_take, List.length_drop] at *; omega) | (rw [wrap64_id (by omega) (by omega)]; omega) | (simp; done)))); (try simp only [hb, go_sem])))
                refine hK26 _ ?_; clear hK26 K26
                refine AWP.cond rfl (fun c70 => ?_) (fun c70 => ?_)
                · first | exact Bool.noConfusion c70 | (
                    try simp only [dD] at c70
                    refine AWP.seqk fun K27 hK27 => ?_
                    refine AWP.region ?_
                    simp only [go_sem] -- region 21
                    repeat' (first | (refine AGet.haveM (by assumption) ?_; (try simp only [go_sem])) | (refine AGet.have' (by assumption) ?_; (try simp only [go_sem])) | ((first | refine AGet.nth ?_ (fun b hb => ?_) | refine AGet.nth1 ?_ (fun b hb => ?_) | with_reducible refine And.intro ?_ ?_); (focus ((first | omega | exact List.length_pos_iff.2 (by assumption) | (simp only [List.length_append, List.length_cons, List.length_nil, List.length_map, List.length_take, List.length_drop] at *; omega) | (rw [wrap64_id (by omega) (by omega)]; omega) | (simp; done)))); (try simp only [hb, go_sem])))
                    refine hK27 _ ?_; clear hK27 K27
                    refine AWP.ret ?_
                    try simp only [go_sem]
                    clear hK25 K25
                    first
                    | exact ⟨[], .tup [.v _, .v _], rfl, ⟨rfl, rfl, trivial⟩, tupP (parse_long (by omega)), rfl⟩
                    | exact ⟨[], .tup [.v _, .v _], rfl, ⟨rfl, rfl, trivial⟩, tupP (parse_form (by omega) (r1_yes1 hJ (by assumption))), rfl⟩
                    | exact ⟨[], .tup [.v _, .v _], rfl, ⟨rfl, rfl, trivial⟩, tupP (parse_form (by omega) (r1_yes2 hJ hb (by assumption) (by assumption))), rfl⟩
                    | exact ⟨[], .tup [.v _, .v _], rfl, ⟨rfl, rfl, trivial⟩, tupP (parse_dig (by omega) (all_not (r1_get hJ hb) (.inl (by assumption)))), rfl⟩
                    | exact ⟨[], .tup [.v _, .v _], rfl, ⟨rfl, rfl, trivial⟩, tupP (parse_dig (by omega) (all_not (r1_get hJ hb) (.inr (by assumption)))), rfl⟩
                    | (have he := r1_end hJ h1 c38
                       rw [he] at h2 h3 h4
                       exact ⟨[], .tup [.v _, .v _], rfl, ⟨rfl, rfl, trivial⟩, tupP (parse_over (by omega) hF h2 (h4 (by assumption))), rfl⟩)
                    | (have he := r1_end hJ h1 c38
                       rw [he] at h2 h3 h4
                       exact ⟨[], .tup [.v _, .v _], rfl, ⟨rfl, rfl, trivial⟩, tupP (parse_over (by omega) hF h2 (by have := (h3 (by assumption)).1; omega)), rfl⟩)
                    | (have he := r1_end hJ h1 c38
                       rw [he] at h2 h3 h4
                       have hn := (h3 (by assumption)).1
                       have hw := wrapn c68
                       simp only [hw.1, hw.2]
                       have ho := parse_ok (l := s) (by omega) hF h2 (by omega)
                       rw [← hn] at ho
                       first
                       | (rw [if_pos (sg_yes hJ c70)] at ho
                          exact ⟨[], .tup [.v _, .v _], rfl, ⟨rfl, rfl, trivial⟩, tupP ho, rfl⟩)
                       | (rw [if_neg (by rw [sg_no hJ c70]; simp)] at ho
                          exact ⟨[], .tup [.v _, .v _], rfl, ⟨rfl, rfl, trivial⟩, tupP ho, rfl⟩)))
                · first | exact Bool.noConfusion c70 | (
                    try simp only [dD] at c70
                    refine AWP.skip ?_
                    refine hK25 _ ?_; clear hK25 K25
                    refine AWP.seqk fun K28 hK28 => ?_
                    refine AWP.region ?_
                    simp only [go_sem] -- region 22
                    repeat' (first | (refine AGet.haveM (by assumption) ?_; (try simp only [go_sem])) | (refine AGet.have' (by assumption) ?_; (try simp only [go_sem])) | ((first | refine AGet.nth ?_ (fun b hb => ?_) | refine AGet.nth1 ?_ (fun b hb => ?_) | with_reducible refine And.intro ?_ ?_); (focus ((first | omega | exact List.length_pos_iff.2 (by assumption) | (simp only [List.length_append, List.length_cons, List.length_nil, List.length_map, List.length_take, List.length_drop] at *; omega) | (rw [wrap64_id (by omega) (by omega)]; omega) | (simp; done)))); (try simp only [hb, go_sem])))
                    refine hK28 _ ?_; clear hK28 K28
                    refine AWP.ret ?_
                    try simp only [go_sem]
                    first
                    | exact ⟨[], .tup [.v _, .v _], rfl, ⟨rfl, rfl, trivial⟩, tupP (parse_long (by omega)), rfl⟩
                    | exact ⟨[], .tup [.v _, .v _], rfl, ⟨rfl, rfl, trivial⟩, tupP (parse_form (by omega) (r1_yes1 hJ (by assumption))), rfl⟩
                    | exact ⟨[], .tup [.v _, .v _], rfl, ⟨rfl, rfl, trivial⟩, tupP (parse_form (by omega) (r1_yes2 hJ hb (by assumption) (by assumption))), rfl⟩
                    | exact ⟨[], .tup [.v _, .v _], rfl, ⟨rfl, rfl, trivial⟩, tupP (parse_dig (by omega) (all_not (r1_get hJ hb) (.inl (by assumption)))), rfl⟩
                    | exact ⟨[], .tup [.v _, .v _], rfl, ⟨rfl, rfl, trivial⟩, tupP (parse_dig (by omega) (all_not (r1_get hJ hb) (.inr (by assumption)))), rfl⟩
                    | (have he := r1_end hJ h1 c38
                       rw [he] at h2 h3 h4
                       exact ⟨[], .tup [.v _, .v _], rfl, ⟨rfl, rfl, trivial⟩, tupP (parse_over (by omega) hF h2 (h4 (by assumption))), rfl⟩)
                    | (have he := r1_end hJ h1 c38
                       rw [he] at h2 h3 h4
                       exact ⟨[], .tup [.v _, .v _], rfl, ⟨rfl, rfl, trivial⟩, tupP (parse_over (by omega) hF h2 (by have := (h3 (by assumption)).1; omega)), rfl⟩)
                    | (have he := r1_end hJ h1 c38
                       rw [he] at h2 h3 h4
                       have hn := (h3 (by assumption)).1
                       have hw := wrapn c68
                       simp only [hw.1, hw.2]
                       have ho := parse_ok (l := s) (by omega) hF h2 (by omega)
                       rw [← hn] at ho
                       first
                       | (rw [if_pos (sg_yes hJ c70)] at ho
                          exact ⟨[], .tup [.v _, .v _], rfl, ⟨rfl, rfl, trivial⟩, tupP ho, rfl⟩)
                       | (rw [if_neg (by rw [sg_no hJ c70]; simp)] at ho
                          exact ⟨[], .tup [.v _, .v _], rfl, ⟨rfl, rfl, trivial⟩, tupP ho, rfl⟩)))))))


end Go.Proofs.YtfchlkeekmabfaaGreatDoor
end
section
set_option linter.unusedVariables false
set_option linter.unusedSimpArgs false
namespace Go.Proofs.YtfchlkeekmabfaaGreatDoor
open Go Go.Abs Go.RowKit Go.Bk Go.Msg Go.Txt
set_option maxHeartbeats 4000000 in
set_option maxRecDepth 8000 in
theorem r20time_c (n : Int) : ACalls E 47 [i64 n] (fun r t => r = bl (whenB n) ∧ t = []) := by -- checkroll/checkrollref20.time
  refine ACalls.of_awp (n := 9) (rs := [.tmp 2]) Tryz.func47 rfl Tryz.ntmps47 rfl ?_
  repeat' (first
    | refine AWP.seqk fun K hK => ?_
    | (refine AWP.region ?_; simp only [go_sem])
    | (refine hK _ ?_; clear hK K)
    | refine AWP.block ?_
    | refine AWP.cond rfl (fun c => ?_) (fun c => ?_) <;> first | exact Bool.noConfusion c | (try simp only [dD] at c)
    | refine AWP.skip ?_
    | (refine AWP.exit ?_; simp only [go_sem])
    | (refine AGuard.splitN (fun h => ?_) (fun h => ?_) <;> simp only [h, go_sem] <;> (try simp only [dD] at h))
    | (refine AGuard.split (fun h => ?_) (fun h => ?_) <;> simp only [h, go_sem] <;> (try simp only [dD] at h))
    | (refine AGet.haveM (by assumption) ?_; (try simp only [go_sem]))
    | (refine AGet.have' (by assumption) ?_; (try simp only [go_sem]))
    | ((first | refine AGet.nth ?_ (fun b hb => ?_) | refine AGet.nth1 ?_ (fun b hb => ?_) | with_reducible refine And.intro ?_ ?_); (focus (first | omega | assumption | exact List.length_pos_iff.2 (by assumption) | (simp only [List.length_append, List.length_cons, List.length_nil, List.length_map, List.length_take, List.length_drop] at *; omega) | (rw [wrap64_id (by omega) (by omega)]; omega) | (simp; done) | (simp [spare_len]; done) | (exact ⟨by omega, by omega⟩))); (try simp only [hb, go_sem]))
    | (
        refine AWP.ret ?_
        refine AEnd.is ?_; simp only [go_sem, out_v, out_s, out_n, v_int, v_bool, v_str] <;> (simp_all [whenB] <;> omega))
    | refine AWP.fin (by assumption) ?_
    | fail)

end Go.Proofs.YtfchlkeekmabfaaGreatDoor
end
section
set_option linter.unusedVariables false
set_option linter.unusedSimpArgs false
namespace Go.Proofs.YtfchlkeekmabfaaGreatDoor
open Go Go.Abs Go.RowKit Go.Bk Go.Msg Go.Txt
set_option maxHeartbeats 4000000 in
set_option maxRecDepth 8000 in
theorem r20may_c (a : Ak) (ha : akOk a) : ACalls E 23 [akV a] (fun r t => r = bl (mayA a) ∧ t = []) := by -- checkroll/checkrollref20.May
  obtain ⟨hs1, hs2, hs3, hs4, hs5, hs6, hx⟩ := ha
  refine ACalls.of_awp (n := 120) (rs := [.tmp 2]) Tryz.func23 rfl Tryz.ntmps23 rfl ?_
  repeat' (first
    | refine AWP.seqk fun K hK => ?_
    | (refine AWP.region ?_; simp only [go_sem])
    | (refine hK _ ?_; clear hK K)
    | refine AWP.block ?_
    | refine AWP.cond rfl (fun c => ?_) (fun c => ?_) <;> first | exact Bool.noConfusion c | (try simp only [dD] at c)
    | refine AWP.skip ?_
    | (refine AWP.exit ?_; simp only [go_sem])
    | (refine ACall.one (r5name_c _ (by assumption)) (by kernel_rfl) rfl ?_; simp only [go_sem])
    | (refine ACall.one (r20time_c _) (by kernel_rfl) rfl ?_; simp only [go_sem])
    | (refine ACall.one (r5exec_c _ (by assumption)) (by kernel_rfl) rfl ?_; simp only [go_sem])
    | (refine AGuard.splitN (fun h => ?_) (fun h => ?_) <;> simp only [h, go_sem] <;> (try simp only [dD] at h))
    | (refine AGuard.split (fun h => ?_) (fun h => ?_) <;> simp only [h, go_sem] <;> (try simp only [dD] at h))
    | (refine AGet.haveM (by assumption) ?_; (try simp only [go_sem]))
    | (refine AGet.have' (by assumption) ?_; (try simp only [go_sem]))
    | ((first | refine AGet.nth ?_ (fun b hb => ?_) | refine AGet.nth1 ?_ (fun b hb => ?_) | with_reducible refine And.intro ?_ ?_); (focus (first | omega | assumption | exact List.length_pos_iff.2 (by assumption) | (simp only [List.length_append, List.length_cons, List.length_nil, List.length_map, List.length_take, List.length_drop] at *; omega) | (rw [wrap64_id (by omega) (by omega)]; omega) | (simp; done) | (simp [spare_len]; done) | (exact ⟨by omega, by omega⟩))); (try simp only [hb, go_sem]))
    | (
        refine AWP.ret ?_
        refine AEnd.is ?_; simp only [go_sem, out_v, out_s, out_n, v_int, v_bool, v_str] <;> (first | (clear hs1 hs2 hs3 hs4 hs5 hs6 hx; simp_all [mayA, venueB, and_assoc]; done) | (clear hs1 hs2 hs3 hs4 hs5 hs6 hx; simp_all [mayA, venueB, and_assoc]; omega) | skip))
    | refine AWP.fin (by assumption) ?_
    | fail)


end Go.Proofs.YtfchlkeekmabfaaGreatDoor
end
section
set_option linter.unusedVariables false
set_option linter.unusedSimpArgs false
namespace Go.Proofs.YtfchlkeekmabfaaGreatDoor
open Go Go.Abs Go.RowKit Go.Bk Go.Msg Go.Txt

set_option maxHeartbeats 4000000 in
set_option maxRecDepth 8000 in
theorem r23side_c (b : Bool) : ACalls E 26 [bl b] (fun r t => r = str (sideW b) ∧ t = []) := by -- checkroll/checkrollref23.side
  refine ACalls.of_awp (n := 4) (rs := [.tmp 2]) Tryz.func26 rfl Tryz.ntmps26 rfl ?_
  repeat' (first
    | refine AWP.seqk fun K hK => ?_
    | (refine AWP.region ?_; simp only [go_sem])
    | (refine hK _ ?_; clear hK K)
    | refine AWP.block ?_
    | refine AWP.cond rfl (fun c => ?_) (fun c => ?_) <;> first | exact Bool.noConfusion c | (try simp only [dD] at c)
    | refine AWP.skip ?_
    | (refine AWP.exit ?_; simp only [go_sem])
    | (refine AGet.haveM (by assumption) ?_; (try simp only [go_sem]))
    | (refine AGet.have' (by assumption) ?_; (try simp only [go_sem]))
    | ((first | refine AGet.nth ?_ (fun b hb => ?_) | refine AGet.nth1 ?_ (fun b hb => ?_) | with_reducible refine And.intro ?_ ?_); (focus (first | omega | assumption | exact List.length_pos_iff.2 (by assumption) | (simp only [List.length_append, List.length_cons, List.length_nil, List.length_map, List.length_take, List.length_drop] at *; omega) | (rw [wrap64_id (by omega) (by omega)]; omega) | (simp; done) | (simp [spare_len]; done) | (exact ⟨by omega, by omega⟩))); (try simp only [hb, go_sem]))
    | (
        refine AWP.ret ?_
        refine AEnd.is ?_; simp only [go_sem, out_v, out_s, out_n, v_int, v_bool, v_str] <;> (first | rfl | (cases b <;> simp_all [sideW] <;> rfl) | skip))
    | refine AWP.fin (by assumption) ?_
    | fail)

set_option maxHeartbeats 4000000 in
set_option maxRecDepth 8000 in
theorem r23on_c (b : Bool) : ACalls E 28 [bl b] (fun r t => r = str (onW b) ∧ t = []) := by -- checkroll/checkrollref23.on
  refine ACalls.of_awp (n := 4) (rs := [.tmp 2]) Tryz.func28 rfl Tryz.ntmps28 rfl ?_
  repeat' (first
    | refine AWP.seqk fun K hK => ?_
    | (refine AWP.region ?_; simp only [go_sem])
    | (refine hK _ ?_; clear hK K)
    | refine AWP.block ?_
    | refine AWP.cond rfl (fun c => ?_) (fun c => ?_) <;> first | exact Bool.noConfusion c | (try simp only [dD] at c)
    | refine AWP.skip ?_
    | (refine AWP.exit ?_; simp only [go_sem])
    | (refine AGet.haveM (by assumption) ?_; (try simp only [go_sem]))
    | (refine AGet.have' (by assumption) ?_; (try simp only [go_sem]))
    | ((first | refine AGet.nth ?_ (fun b hb => ?_) | refine AGet.nth1 ?_ (fun b hb => ?_) | with_reducible refine And.intro ?_ ?_); (focus (first | omega | assumption | exact List.length_pos_iff.2 (by assumption) | (simp only [List.length_append, List.length_cons, List.length_nil, List.length_map, List.length_take, List.length_drop] at *; omega) | (rw [wrap64_id (by omega) (by omega)]; omega) | (simp; done) | (simp [spare_len]; done) | (exact ⟨by omega, by omega⟩))); (try simp only [hb, go_sem]))
    | (
        refine AWP.ret ?_
        refine AEnd.is ?_; simp only [go_sem, out_v, out_s, out_n, v_int, v_bool, v_str] <;> (first | rfl | (cases b <;> simp_all [onW] <;> rfl) | skip))
    | refine AWP.fin (by assumption) ?_
    | fail)

set_option maxHeartbeats 4000000 in
set_option maxRecDepth 8000 in
theorem r23num_c (n : Int) : ACalls E 25 [i64 n] (fun r t => r = str (32 :: Fld.showF n) ∧ t = []) := by -- checkroll/checkrollref23.num
  refine ACalls.of_awp (n := 6) (rs := [.tmp 2]) Tryz.func25 rfl Tryz.ntmps25 rfl ?_
  repeat' (first
    | refine AWP.seqk fun K hK => ?_
    | (
        refine AWP.here 1 3 4 rfl ?_
        have hl20 := Fld.show_len n
        refine AWP.region ?_; simp only [go_sem])
    | (refine AWP.region ?_; simp only [go_sem])
    | (refine hK _ ?_; clear hK K)
    | refine AWP.block ?_
    | refine AWP.cond rfl (fun c => ?_) (fun c => ?_) <;> first | exact Bool.noConfusion c | (try simp only [dD] at c)
    | refine AWP.skip ?_
    | (refine AWP.exit ?_; simp only [go_sem])
    | (refine ACall.one (r1show_c n) (by kernel_rfl) rfl ?_; simp only [go_sem])
    | (refine AGet.haveM (by assumption) ?_; (try simp only [go_sem]))
    | (refine AGet.have' (by assumption) ?_; (try simp only [go_sem]))
    | ((first | refine AGet.nth ?_ (fun b hb => ?_) | refine AGet.nth1 ?_ (fun b hb => ?_) | with_reducible refine And.intro ?_ ?_); (focus (first | omega | assumption | exact List.length_pos_iff.2 (by assumption) | (simp only [List.length_append, List.length_cons, List.length_nil, List.length_map, List.length_take, List.length_drop] at *; omega) | (rw [wrap64_id (by omega) (by omega)]; omega) | (simp; done) | (simp [spare_len]; done) | (exact ⟨by omega, by omega⟩))); (try simp only [hb, go_sem]))
    | (
        refine AWP.ret ?_
        refine AEnd.is ?_; simp only [go_sem, out_v, out_s, out_n, v_int, v_bool, v_str] <;> (first | rfl | skip))
    | (refine And.intro (by omega) ?_)
    | refine AWP.fin (by assumption) ?_
    | fail)


end Go.Proofs.YtfchlkeekmabfaaGreatDoor
end
section
set_option linter.unusedVariables false
set_option linter.unusedSimpArgs false
namespace Go.Proofs.YtfchlkeekmabfaaGreatDoor
open Go Go.Abs Go.RowKit Go.Bk Go.Msg Go.Txt

set_option maxHeartbeats 4000000 in
set_option maxRecDepth 8000 in
theorem r23name_c (k : Int) (h1 : 1 ≤ k) (h2 : k ≤ 8) : ACalls E 24 [i64 k] (fun r t => r = str (nameW askN k) ∧ t = []) := by -- checkroll/checkrollref23.name
  refine ACalls.of_awp (n := 7) (rs := [.tmp 2]) Tryz.func24 rfl Tryz.ntmps24 rfl ?_
  repeat' (first
    | refine AWP.seqk fun K hK => ?_
    | (
        refine AWP.here 1 3 5 rfl ?_
        have h8 : k = 1 ∨ k = 2 ∨ k = 3 ∨ k = 4 ∨ k = 5 ∨ k = 6 ∨ k = 7 ∨ k = 8 := by omega
        rcases h8 with rfl | rfl | rfl | rfl | rfl | rfl | rfl | rfl
        all_goals skip
        refine AWP.region ?_; simp only [go_sem])
    | (refine AWP.region ?_; simp only [go_sem])
    | (refine hK _ ?_; clear hK K)
    | refine AWP.block ?_
    | refine AWP.cond rfl (fun c => ?_) (fun c => ?_) <;> first | exact Bool.noConfusion c | (try simp only [dD] at c)
    | refine AWP.skip ?_
    | (refine AWP.exit ?_; simp only [go_sem])
    | (refine AGet.haveM (by assumption) ?_; (try simp only [go_sem]))
    | (refine AGet.have' (by assumption) ?_; (try simp only [go_sem]))
    | ((first | refine AGet.nth ?_ (fun b hb => ?_) | refine AGet.nth1 ?_ (fun b hb => ?_) | with_reducible refine And.intro ?_ ?_); (focus (first | omega | assumption | exact List.length_pos_iff.2 (by assumption) | (simp only [List.length_append, List.length_cons, List.length_nil, List.length_map, List.length_take, List.length_drop] at *; omega) | (rw [wrap64_id (by omega) (by omega)]; omega) | (simp; done) | (simp [spare_len]; done) | (exact ⟨by omega, by omega⟩))); (try simp only [hb, go_sem]))
    | (
        refine AWP.ret ?_
        refine AEnd.is ?_; simp only [go_sem, out_v, out_s, out_n, v_int, v_bool, v_str] <;> (first | rfl | skip))
    | (refine AGet.have' rfl ?_; (try simp [go_sem]))
    | refine AWP.fin (by assumption) ?_
    | fail)

set_option maxHeartbeats 4000000 in
set_option maxRecDepth 8000 in
theorem r23exec_c (k : Int) (h1 : 1 ≤ k) (h2 : k ≤ 8) : ACalls E 27 [i64 k] (fun r t => r = str (nameW exN k) ∧ t = []) := by -- checkroll/checkrollref23.exec
  refine ACalls.of_awp (n := 7) (rs := [.tmp 2]) Tryz.func27 rfl Tryz.ntmps27 rfl ?_
  repeat' (first
    | refine AWP.seqk fun K hK => ?_
    | (
        refine AWP.here 1 3 5 rfl ?_
        have h8 : k = 1 ∨ k = 2 ∨ k = 3 ∨ k = 4 ∨ k = 5 ∨ k = 6 ∨ k = 7 ∨ k = 8 := by omega
        rcases h8 with rfl | rfl | rfl | rfl | rfl | rfl | rfl | rfl
        all_goals skip
        refine AWP.region ?_; simp only [go_sem])
    | (refine AWP.region ?_; simp only [go_sem])
    | (refine hK _ ?_; clear hK K)
    | refine AWP.block ?_
    | refine AWP.cond rfl (fun c => ?_) (fun c => ?_) <;> first | exact Bool.noConfusion c | (try simp only [dD] at c)
    | refine AWP.skip ?_
    | (refine AWP.exit ?_; simp only [go_sem])
    | (refine AGet.haveM (by assumption) ?_; (try simp only [go_sem]))
    | (refine AGet.have' (by assumption) ?_; (try simp only [go_sem]))
    | ((first | refine AGet.nth ?_ (fun b hb => ?_) | refine AGet.nth1 ?_ (fun b hb => ?_) | with_reducible refine And.intro ?_ ?_); (focus (first | omega | assumption | exact List.length_pos_iff.2 (by assumption) | (simp only [List.length_append, List.length_cons, List.length_nil, List.length_map, List.length_take, List.length_drop] at *; omega) | (rw [wrap64_id (by omega) (by omega)]; omega) | (simp; done) | (simp [spare_len]; done) | (exact ⟨by omega, by omega⟩))); (try simp only [hb, go_sem]))
    | (
        refine AWP.ret ?_
        refine AEnd.is ?_; simp only [go_sem, out_v, out_s, out_n, v_int, v_bool, v_str] <;> (first | rfl | skip))
    | (refine AGet.have' rfl ?_; (try simp [go_sem]))
    | refine AWP.fin (by assumption) ?_
    | fail)


end Go.Proofs.YtfchlkeekmabfaaGreatDoor
end
section
set_option linter.unusedVariables false
set_option linter.unusedSimpArgs false
namespace Go.Proofs.YtfchlkeekmabfaaGreatDoor
open Go Go.Abs Go.RowKit Go.Bk Go.Msg Go.Txt
theorem wl {a : Ak} {w : List (List UInt8)} (hm : mayA a = true) (h : wordsA a = w) : ∀ x ∈ w, x.length ≤ 20 := fun x hx => ((clean_words hm).1 x (by rw [h]; exact hx)).2.2
theorem sh_of {a : Ak} {w : List (List UInt8)} (hm : mayA a = true) (hw : wordsA a = w) : showA a = (joinW 32 w, 0) := by unfold showA; rw [if_pos hm, hw]
theorem sh_no {a : Ak} (h : ¬ mayA a = true) : showA a = ([], 1) := by unfold showA; rw [if_neg h]
theorem exec_kind8 {a : Ak} (hm : mayA a = true) (k : a.kind = 3) : 1 ≤ a.exec.kind ∧ a.exec.kind ≤ 8 := by
  rw [may3 k] at hm
  have h := (Bool.and_eq_true _ _ |>.mp hm).2
  exact (exec_ok h).kind
theorem ref_len (s : List UInt8) (h : (refW s).length ≤ 20) : s.length ≤ 20 := by unfold refW at h; split at h <;> simp_all
theorem ex_len {k : Int} (h : 1 ≤ k ∧ k ≤ 8) : (nameW exN k).length ≤ 8 := by
  rcases eight h with rfl | rfl | rfl | rfl | rfl | rfl | rfl | rfl <;> decide

set_option maxHeartbeats 4000000 in
set_option maxRecDepth 8000 in
theorem r23show_0 (a : Ak) (ha : akOk a) (hm : mayA a = false) : ACalls E 10 [akV a] (fun r t => r = .tup [str (showA a).1, i64 (showA a).2] ∧ t = []) := by -- #sh0
  refine ACalls.of_awp (n := 183) (rs := [.tmp 2, .tmp 3]) Tryz.func10 rfl Tryz.ntmps10 rfl ?_
  repeat' (first
    | refine AWP.seqk fun K hK => ?_
    | (refine AWP.region ?_; simp only [go_sem, hm])
    | (refine AWP.here 9 27 30 rfl ?_; refine AWP.regionAs [0, 1, 2, 3, 4, 5, 6, 7, 8, 9, 10, 11, 12, 13, 14, 15, 16, 17, 20, 21, 24, 25, 18, 19, 22, 23, 26, 27, 28, 29] [[], [], [0, 1], [0, 1, 2], [], [4], [0, 1, 2, 3, 4, 5], [0, 1, 2, 3, 4, 5, 6], [], [8], [0, 1, 2, 3, 4, 5, 6, 7, 8, 9], [0, 1, 2, 3, 4, 5, 6, 7, 8, 9, 10], [], [12], [0, 1, 2, 3, 4, 5, 6, 7, 8, 9, 10, 11, 12, 13], [0, 1, 2, 3, 4, 5, 6, 7, 8, 9, 10, 11, 12, 13, 14], [], [16], [16, 17], [0, 1, 2, 3, 4, 5, 6, 7, 8, 9, 10, 11, 12, 13, 14, 15, 16, 17, 18], [], [20], [16, 17, 18, 20, 21], [0, 1, 2, 3, 4, 5, 6, 7, 8, 9, 10, 11, 12, 13, 14, 15, 16, 17, 18, 19, 20, 21, 22], [], [24], [16, 17, 18, 20, 21, 22, 24, 25], [0, 1, 2, 3, 4, 5, 6, 7, 8, 9, 10, 11, 12, 13, 14, 15, 16, 17, 18, 19, 20, 21, 22, 23, 24, 25, 26], [0, 1, 2, 3, 4, 5, 6, 7, 8, 9, 10, 11, 12, 13, 14, 15, 16, 17, 18, 19, 20, 21, 22, 23, 24, 25, 26, 27], [0, 1, 2, 3, 4, 5, 6, 7, 8, 9, 10, 11, 12, 13, 14, 15, 16, 17, 18, 19, 20, 21, 22, 23, 24, 25, 26, 27, 28]] [] (by kernel_rfl) (by kernel_rfl) (by decide) rfl ?_; simp only [go_sem, hm])
    | (refine AWP.here 11 57 21 rfl ?_; refine AWP.regionAs [0, 1, 2, 3, 4, 5, 6, 7, 8, 9, 10, 11, 12, 15, 16, 13, 14, 17, 18, 19, 20] [[], [], [0, 1], [0, 1, 2], [], [4], [0, 1, 2, 3, 4, 5], [0, 1, 2, 3, 4, 5, 6], [], [8], [0, 1, 2, 3, 4, 5, 6, 7, 8, 9], [], [11], [11, 12], [0, 1, 2, 3, 4, 5, 6, 7, 8, 9, 10, 11, 12, 13], [], [15], [11, 12, 13, 15, 16], [0, 1, 2, 3, 4, 5, 6, 7, 8, 9, 10, 11, 12, 13, 14, 15, 16, 17], [0, 1, 2, 3, 4, 5, 6, 7, 8, 9, 10, 11, 12, 13, 14, 15, 16, 17, 18], [0, 1, 2, 3, 4, 5, 6, 7, 8, 9, 10, 11, 12, 13, 14, 15, 16, 17, 18, 19]] [] (by kernel_rfl) (by kernel_rfl) (by decide) rfl ?_; simp only [go_sem, hm])
    | (refine AWP.here 16 82 46 rfl ?_; refine AWP.regionAs [0, 1, 2, 3, 4, 5, 9, 10, 13, 16, 17, 20, 21, 24, 25, 28, 29, 32, 33, 36, 37, 40, 41, 6, 7, 8, 11, 12, 14, 15, 18, 19, 22, 23, 26, 27, 30, 31, 34, 35, 38, 39, 42, 43, 44, 45] [[], [], [0, 1], [0, 1, 2], [], [4], [4, 5], [0, 1, 2, 3, 4, 5, 6], [0, 1, 2, 3, 4, 5, 6, 7], [], [9], [0, 1, 2, 3, 4, 5, 6, 7, 8, 9, 10], [0, 1, 2, 3, 4, 5, 6, 7, 8, 9, 10, 11], [], [0, 1, 2, 3, 4, 5, 6, 7, 8, 9, 10, 11, 12, 13], [0, 1, 2, 3, 4, 5, 6, 7, 8, 9, 10, 11, 12, 13, 14], [], [16], [0, 1, 2, 3, 4, 5, 6, 7, 8, 9, 10, 11, 12, 13, 14, 15, 16, 17], [0, 1, 2, 3, 4, 5, 6, 7, 8, 9, 10, 11, 12, 13, 14, 15, 16, 17, 18], [], [20], [0, 1, 2, 3, 4, 5, 6, 7, 8, 9, 10, 11, 12, 13, 14, 15, 16, 17, 18, 19, 20, 21], [0, 1, 2, 3, 4, 5, 6, 7, 8, 9, 10, 11, 12, 13, 14, 15, 16, 17, 18, 19, 20, 21, 22], [], [24], [0, 1, 2, 3, 4, 5, 6, 7, 8, 9, 10, 11, 12, 13, 14, 15, 16, 17, 18, 19, 20, 21, 22, 23, 24, 25], [0, 1, 2, 3, 4, 5, 6, 7, 8, 9, 10, 11, 12, 13, 14, 15, 16, 17, 18, 19, 20, 21, 22, 23, 24, 25, 26], [], [28], [4, 5, 6, 28, 29], [0, 1, 2, 3, 4, 5, 6, 7, 8, 9, 10, 11, 12, 13, 14, 15, 16, 17, 18, 19, 20, 21, 22, 23, 24, 25, 26, 27, 28, 29, 30], [], [32], [4, 5, 6, 28, 29, 30, 32, 33], [0, 1, 2, 3, 4, 5, 6, 7, 8, 9, 10, 11, 12, 13, 14, 15, 16, 17, 18, 19, 20, 21, 22, 23, 24, 25, 26, 27, 28, 29, 30, 31, 32, 33, 34], [], [36], [4, 5, 6, 28, 29, 30, 32, 33, 34, 36, 37], [0, 1, 2, 3, 4, 5, 6, 7, 8, 9, 10, 11, 12, 13, 14, 15, 16, 17, 18, 19, 20, 21, 22, 23, 24, 25, 26, 27, 28, 29, 30, 31, 32, 33, 34, 35, 36, 37, 38], [], [40], [4, 5, 6, 28, 29, 30, 32, 33, 34, 36, 37, 38, 40, 41], [0, 1, 2, 3, 4, 5, 6, 7, 8, 9, 10, 11, 12, 13, 14, 15, 16, 17, 18, 19, 20, 21, 22, 23, 24, 25, 26, 27, 28, 29, 30, 31, 32, 33, 34, 35, 36, 37, 38, 39, 40, 41, 42], [0, 1, 2, 3, 4, 5, 6, 7, 8, 9, 10, 11, 12, 13, 14, 15, 16, 17, 18, 19, 20, 21, 22, 23, 24, 25, 26, 27, 28, 29, 30, 31, 32, 33, 34, 35, 36, 37, 38, 39, 40, 41, 42, 43], [0, 1, 2, 3, 4, 5, 6, 7, 8, 9, 10, 11, 12, 13, 14, 15, 16, 17, 18, 19, 20, 21, 22, 23, 24, 25, 26, 27, 28, 29, 30, 31, 32, 33, 34, 35, 36, 37, 38, 39, 40, 41, 42, 43, 44]] [] (by kernel_rfl) (by kernel_rfl) (by decide) rfl ?_; simp only [go_sem, hm])
    | (refine AWP.here 26 158 27 rfl ?_; refine AWP.regionAs [0, 1, 2, 3, 4, 5, 6, 7, 8, 9, 10, 13, 14, 17, 18, 21, 22, 11, 12, 15, 16, 19, 20, 23, 24, 25, 26] [[], [0], [], [2], [0, 1, 2, 3], [0, 1, 2, 3, 4], [], [6], [0, 1, 2, 3, 4, 5, 6, 7], [], [9], [9, 10], [0, 1, 2, 3, 4, 5, 6, 7, 8, 9, 10, 11], [], [13], [9, 10, 11, 13, 14], [0, 1, 2, 3, 4, 5, 6, 7, 8, 9, 10, 11, 12, 13, 14, 15], [], [17], [9, 10, 11, 13, 14, 15, 17, 18], [0, 1, 2, 3, 4, 5, 6, 7, 8, 9, 10, 11, 12, 13, 14, 15, 16, 17, 18, 19], [], [21], [9, 10, 11, 13, 14, 15, 17, 18, 19, 21, 22], [0, 1, 2, 3, 4, 5, 6, 7, 8, 9, 10, 11, 12, 13, 14, 15, 16, 17, 18, 19, 20, 21, 22, 23], [0, 1, 2, 3, 4, 5, 6, 7, 8, 9, 10, 11, 12, 13, 14, 15, 16, 17, 18, 19, 20, 21, 22, 23, 24], [0, 1, 2, 3, 4, 5, 6, 7, 8, 9, 10, 11, 12, 13, 14, 15, 16, 17, 18, 19, 20, 21, 22, 23, 24, 25]] [] (by kernel_rfl) (by kernel_rfl) (by decide) rfl ?_; simp only [go_sem, hm])
    | (refine hK _ ?_; clear hK K)
    | refine AWP.block ?_
    | refine AWP.cond rfl (fun c => ?_) (fun c => ?_) <;> first | exact Bool.noConfusion c | (try simp only [dD] at c)
    | refine AWP.skip ?_
    | (refine AWP.exit ?_; simp only [go_sem, hm])
    | (refine ACall.one (r20may_c a ha) (by kernel_rfl) rfl ?_; simp only [go_sem, hm])
    | (refine ACall.one (r23name_c ) (by kernel_rfl) rfl ?_; simp only [go_sem, hm])
    | (refine ACall.one (r23num_c ) (by kernel_rfl) rfl ?_; simp only [go_sem, hm])
    | (refine ACall.one (r23side_c ) (by kernel_rfl) rfl ?_; simp only [go_sem, hm])
    | (refine ACall.one (r23exec_c ) (by kernel_rfl) rfl ?_; simp only [go_sem, hm])
    | (refine ACall.one (r23on_c ) (by kernel_rfl) rfl ?_; simp only [go_sem, hm])
    | (refine AGet.haveM (by assumption) ?_; (try simp only [go_sem, hm]))
    | (refine AGet.have' (by assumption) ?_; (try simp only [go_sem, hm]))
    | ((first | refine AGet.nth ?_ (fun b hb => ?_) | refine AGet.nth1 ?_ (fun b hb => ?_) | with_reducible refine And.intro ?_ ?_); (focus (first | omega | assumption | exact List.length_pos_iff.2 (by assumption) | (simp only [List.length_append, List.length_cons, List.length_nil, List.length_map, List.length_take, List.length_drop] at *; omega) | (rw [wrap64_id (by omega) (by omega)]; omega) | (simp; done) | (simp [spare_len]; done) | (exact ⟨by omega, by omega⟩))); (try simp only [hb, go_sem, hm]))
    | (
        refine AWP.ret ?_
        refine AEnd.is ?_; simp only [go_sem, out_v, out_s, out_n, v_int, v_bool, v_str] <;> (first | (rw [sh_no (by simp [hm])]; exact ⟨rfl, rfl⟩) | skip))
    | refine AWP.fin (by assumption) ?_
    | fail)

set_option maxHeartbeats 4000000 in
set_option maxRecDepth 8000 in
theorem r23show_1 (a : Ak) (ha : akOk a) (hm : mayA a = true) (hk : a.kind = 1) : ACalls E 10 [akV a] (fun r t => r = .tup [str (showA a).1, i64 (showA a).2] ∧ t = []) := by -- #sh1
  obtain ⟨kind, venue, ord, id, exec, now, on, lim⟩ := a
  dsimp only at hk
  subst hk
  have hk : (⟨1, venue, ord, id, exec, now, on, lim⟩ : Ak).kind = 1 := rfl
  have hnl := (name_len (may_kind hm)).1
  have hlv := Fld.show_len venue
  have hw := wl hm (words1 hk)
  simp only [List.forall_mem_cons, List.forall_mem_nil] at hw
  dsimp only at hnl hw
  refine ACalls.of_awp (n := 183) (rs := [.tmp 2, .tmp 3]) Tryz.func10 rfl Tryz.ntmps10 rfl ?_
  repeat' (first
    | refine AWP.seqk fun K hK => ?_
    | (refine AWP.region ?_; simp only [go_sem, hm])
    | (refine AWP.here 9 27 30 rfl ?_; refine AWP.regionAs [0, 1, 2, 3, 4, 5, 6, 7, 8, 9, 10, 11, 12, 13, 14, 15, 16, 17, 20, 21, 24, 25, 18, 19, 22, 23, 26, 27, 28, 29] [[], [], [0, 1], [0, 1, 2], [], [4], [0, 1, 2, 3, 4, 5], [0, 1, 2, 3, 4, 5, 6], [], [8], [0, 1, 2, 3, 4, 5, 6, 7, 8, 9], [0, 1, 2, 3, 4, 5, 6, 7, 8, 9, 10], [], [12], [0, 1, 2, 3, 4, 5, 6, 7, 8, 9, 10, 11, 12, 13], [0, 1, 2, 3, 4, 5, 6, 7, 8, 9, 10, 11, 12, 13, 14], [], [16], [16, 17], [0, 1, 2, 3, 4, 5, 6, 7, 8, 9, 10, 11, 12, 13, 14, 15, 16, 17, 18], [], [20], [16, 17, 18, 20, 21], [0, 1, 2, 3, 4, 5, 6, 7, 8, 9, 10, 11, 12, 13, 14, 15, 16, 17, 18, 19, 20, 21, 22], [], [24], [16, 17, 18, 20, 21, 22, 24, 25], [0, 1, 2, 3, 4, 5, 6, 7, 8, 9, 10, 11, 12, 13, 14, 15, 16, 17, 18, 19, 20, 21, 22, 23, 24, 25, 26], [0, 1, 2, 3, 4, 5, 6, 7, 8, 9, 10, 11, 12, 13, 14, 15, 16, 17, 18, 19, 20, 21, 22, 23, 24, 25, 26, 27], [0, 1, 2, 3, 4, 5, 6, 7, 8, 9, 10, 11, 12, 13, 14, 15, 16, 17, 18, 19, 20, 21, 22, 23, 24, 25, 26, 27, 28]] [] (by kernel_rfl) (by kernel_rfl) (by decide) rfl ?_; simp only [go_sem, hm])
    | (refine AWP.here 11 57 21 rfl ?_; refine AWP.regionAs [0, 1, 2, 3, 4, 5, 6, 7, 8, 9, 10, 11, 12, 15, 16, 13, 14, 17, 18, 19, 20] [[], [], [0, 1], [0, 1, 2], [], [4], [0, 1, 2, 3, 4, 5], [0, 1, 2, 3, 4, 5, 6], [], [8], [0, 1, 2, 3, 4, 5, 6, 7, 8, 9], [], [11], [11, 12], [0, 1, 2, 3, 4, 5, 6, 7, 8, 9, 10, 11, 12, 13], [], [15], [11, 12, 13, 15, 16], [0, 1, 2, 3, 4, 5, 6, 7, 8, 9, 10, 11, 12, 13, 14, 15, 16, 17], [0, 1, 2, 3, 4, 5, 6, 7, 8, 9, 10, 11, 12, 13, 14, 15, 16, 17, 18], [0, 1, 2, 3, 4, 5, 6, 7, 8, 9, 10, 11, 12, 13, 14, 15, 16, 17, 18, 19]] [] (by kernel_rfl) (by kernel_rfl) (by decide) rfl ?_; simp only [go_sem, hm])
    | (refine AWP.here 16 82 46 rfl ?_; refine AWP.regionAs [0, 1, 2, 3, 4, 5, 9, 10, 13, 16, 17, 20, 21, 24, 25, 28, 29, 32, 33, 36, 37, 40, 41, 6, 7, 8, 11, 12, 14, 15, 18, 19, 22, 23, 26, 27, 30, 31, 34, 35, 38, 39, 42, 43, 44, 45] [[], [], [0, 1], [0, 1, 2], [], [4], [4, 5], [0, 1, 2, 3, 4, 5, 6], [0, 1, 2, 3, 4, 5, 6, 7], [], [9], [0, 1, 2, 3, 4, 5, 6, 7, 8, 9, 10], [0, 1, 2, 3, 4, 5, 6, 7, 8, 9, 10, 11], [], [0, 1, 2, 3, 4, 5, 6, 7, 8, 9, 10, 11, 12, 13], [0, 1, 2, 3, 4, 5, 6, 7, 8, 9, 10, 11, 12, 13, 14], [], [16], [0, 1, 2, 3, 4, 5, 6, 7, 8, 9, 10, 11, 12, 13, 14, 15, 16, 17], [0, 1, 2, 3, 4, 5, 6, 7, 8, 9, 10, 11, 12, 13, 14, 15, 16, 17, 18], [], [20], [0, 1, 2, 3, 4, 5, 6, 7, 8, 9, 10, 11, 12, 13, 14, 15, 16, 17, 18, 19, 20, 21], [0, 1, 2, 3, 4, 5, 6, 7, 8, 9, 10, 11, 12, 13, 14, 15, 16, 17, 18, 19, 20, 21, 22], [], [24], [0, 1, 2, 3, 4, 5, 6, 7, 8, 9, 10, 11, 12, 13, 14, 15, 16, 17, 18, 19, 20, 21, 22, 23, 24, 25], [0, 1, 2, 3, 4, 5, 6, 7, 8, 9, 10, 11, 12, 13, 14, 15, 16, 17, 18, 19, 20, 21, 22, 23, 24, 25, 26], [], [28], [4, 5, 6, 28, 29], [0, 1, 2, 3, 4, 5, 6, 7, 8, 9, 10, 11, 12, 13, 14, 15, 16, 17, 18, 19, 20, 21, 22, 23, 24, 25, 26, 27, 28, 29, 30], [], [32], [4, 5, 6, 28, 29, 30, 32, 33], [0, 1, 2, 3, 4, 5, 6, 7, 8, 9, 10, 11, 12, 13, 14, 15, 16, 17, 18, 19, 20, 21, 22, 23, 24, 25, 26, 27, 28, 29, 30, 31, 32, 33, 34], [], [36], [4, 5, 6, 28, 29, 30, 32, 33, 34, 36, 37], [0, 1, 2, 3, 4, 5, 6, 7, 8, 9, 10, 11, 12, 13, 14, 15, 16, 17, 18, 19, 20, 21, 22, 23, 24, 25, 26, 27, 28, 29, 30, 31, 32, 33, 34, 35, 36, 37, 38], [], [40], [4, 5, 6, 28, 29, 30, 32, 33, 34, 36, 37, 38, 40, 41], [0, 1, 2, 3, 4, 5, 6, 7, 8, 9, 10, 11, 12, 13, 14, 15, 16, 17, 18, 19, 20, 21, 22, 23, 24, 25, 26, 27, 28, 29, 30, 31, 32, 33, 34, 35, 36, 37, 38, 39, 40, 41, 42], [0, 1, 2, 3, 4, 5, 6, 7, 8, 9, 10, 11, 12, 13, 14, 15, 16, 17, 18, 19, 20, 21, 22, 23, 24, 25, 26, 27, 28, 29, 30, 31, 32, 33, 34, 35, 36, 37, 38, 39, 40, 41, 42, 43], [0, 1, 2, 3, 4, 5, 6, 7, 8, 9, 10, 11, 12, 13, 14, 15, 16, 17, 18, 19, 20, 21, 22, 23, 24, 25, 26, 27, 28, 29, 30, 31, 32, 33, 34, 35, 36, 37, 38, 39, 40, 41, 42, 43, 44]] [] (by kernel_rfl) (by kernel_rfl) (by decide) rfl ?_; simp only [go_sem, hm])
    | (refine AWP.here 26 158 27 rfl ?_; refine AWP.regionAs [0, 1, 2, 3, 4, 5, 6, 7, 8, 9, 10, 13, 14, 17, 18, 21, 22, 11, 12, 15, 16, 19, 20, 23, 24, 25, 26] [[], [0], [], [2], [0, 1, 2, 3], [0, 1, 2, 3, 4], [], [6], [0, 1, 2, 3, 4, 5, 6, 7], [], [9], [9, 10], [0, 1, 2, 3, 4, 5, 6, 7, 8, 9, 10, 11], [], [13], [9, 10, 11, 13, 14], [0, 1, 2, 3, 4, 5, 6, 7, 8, 9, 10, 11, 12, 13, 14, 15], [], [17], [9, 10, 11, 13, 14, 15, 17, 18], [0, 1, 2, 3, 4, 5, 6, 7, 8, 9, 10, 11, 12, 13, 14, 15, 16, 17, 18, 19], [], [21], [9, 10, 11, 13, 14, 15, 17, 18, 19, 21, 22], [0, 1, 2, 3, 4, 5, 6, 7, 8, 9, 10, 11, 12, 13, 14, 15, 16, 17, 18, 19, 20, 21, 22, 23], [0, 1, 2, 3, 4, 5, 6, 7, 8, 9, 10, 11, 12, 13, 14, 15, 16, 17, 18, 19, 20, 21, 22, 23, 24], [0, 1, 2, 3, 4, 5, 6, 7, 8, 9, 10, 11, 12, 13, 14, 15, 16, 17, 18, 19, 20, 21, 22, 23, 24, 25]] [] (by kernel_rfl) (by kernel_rfl) (by decide) rfl ?_; simp only [go_sem, hm])
    | (refine hK _ ?_; clear hK K)
    | refine AWP.block ?_
    | refine AWP.cond rfl (fun c => ?_) (fun c => ?_) <;> first | exact Bool.noConfusion c | (try simp only [dD] at c)
    | refine AWP.skip ?_
    | (refine AWP.exit ?_; simp only [go_sem, hm])
    | (refine ACall.one (r20may_c ⟨1, venue, ord, id, exec, now, on, lim⟩ ha) (by kernel_rfl) rfl ?_; simp only [go_sem, hm])
    | (refine ACall.one (r23name_c 1 (by omega) (by omega)) (by kernel_rfl) rfl ?_; simp only [go_sem, hm])
    | (refine ACall.one (r23num_c _) (by kernel_rfl) rfl ?_; simp only [go_sem, hm])
    | (refine ACall.one (r23side_c _) (by kernel_rfl) rfl ?_; simp only [go_sem, hm])
    | (refine ACall.one (r23exec_c exec.kind (by omega) (by omega)) (by kernel_rfl) rfl ?_; simp only [go_sem, hm])
    | (refine ACall.one (r23on_c _) (by kernel_rfl) rfl ?_; simp only [go_sem, hm])
    | (refine AGet.haveM (by assumption) ?_; (try simp only [go_sem, hm]))
    | (refine AGet.have' (by assumption) ?_; (try simp only [go_sem, hm]))
    | ((first | refine AGet.nth ?_ (fun b hb => ?_) | refine AGet.nth1 ?_ (fun b hb => ?_) | with_reducible refine And.intro ?_ ?_); (focus (first | omega | assumption | exact List.length_pos_iff.2 (by assumption) | (simp only [List.length_append, List.length_cons, List.length_nil, List.length_map, List.length_take, List.length_drop] at *; omega) | (rw [wrap64_id (by omega) (by omega)]; omega) | (simp; done) | (simp [spare_len]; done) | (exact ⟨by omega, by omega⟩))); (try simp only [hb, go_sem, hm]))
    | (
        refine AWP.ret ?_
        refine AEnd.is ?_; simp only [go_sem, out_v, out_s, out_n, v_int, v_bool, v_str] <;> (first | (rw [sh_of hm (words1 hk)]; simp [joinW, refW, *]; done) | skip))
    | refine AWP.fin (by assumption) ?_
    | fail)

set_option maxHeartbeats 4000000 in
set_option maxRecDepth 8000 in
theorem r23show_2 (a : Ak) (ha : akOk a) (hm : mayA a = true) (hk : a.kind = 2) : ACalls E 10 [akV a] (fun r t => r = .tup [str (showA a).1, i64 (showA a).2] ∧ t = []) := by -- #sh2
  obtain ⟨kind, venue, ord, id, exec, now, on, lim⟩ := a
  dsimp only at hk
  subst hk
  have hk : (⟨2, venue, ord, id, exec, now, on, lim⟩ : Ak).kind = 2 := rfl
  have hnl := (name_len (may_kind hm)).1
  have hlv := Fld.show_len venue
  have hw := wl hm (words2 hk)
  simp only [List.forall_mem_cons, List.forall_mem_nil] at hw
  dsimp only at hnl hw
  refine ACalls.of_awp (n := 183) (rs := [.tmp 2, .tmp 3]) Tryz.func10 rfl Tryz.ntmps10 rfl ?_
  repeat' (first
    | refine AWP.seqk fun K hK => ?_
    | (refine AWP.region ?_; simp only [go_sem, hm])
    | (refine AWP.here 9 27 30 rfl ?_; refine AWP.regionAs [0, 1, 2, 3, 4, 5, 6, 7, 8, 9, 10, 11, 12, 13, 14, 15, 16, 17, 20, 21, 24, 25, 18, 19, 22, 23, 26, 27, 28, 29] [[], [], [0, 1], [0, 1, 2], [], [4], [0, 1, 2, 3, 4, 5], [0, 1, 2, 3, 4, 5, 6], [], [8], [0, 1, 2, 3, 4, 5, 6, 7, 8, 9], [0, 1, 2, 3, 4, 5, 6, 7, 8, 9, 10], [], [12], [0, 1, 2, 3, 4, 5, 6, 7, 8, 9, 10, 11, 12, 13], [0, 1, 2, 3, 4, 5, 6, 7, 8, 9, 10, 11, 12, 13, 14], [], [16], [16, 17], [0, 1, 2, 3, 4, 5, 6, 7, 8, 9, 10, 11, 12, 13, 14, 15, 16, 17, 18], [], [20], [16, 17, 18, 20, 21], [0, 1, 2, 3, 4, 5, 6, 7, 8, 9, 10, 11, 12, 13, 14, 15, 16, 17, 18, 19, 20, 21, 22], [], [24], [16, 17, 18, 20, 21, 22, 24, 25], [0, 1, 2, 3, 4, 5, 6, 7, 8, 9, 10, 11, 12, 13, 14, 15, 16, 17, 18, 19, 20, 21, 22, 23, 24, 25, 26], [0, 1, 2, 3, 4, 5, 6, 7, 8, 9, 10, 11, 12, 13, 14, 15, 16, 17, 18, 19, 20, 21, 22, 23, 24, 25, 26, 27], [0, 1, 2, 3, 4, 5, 6, 7, 8, 9, 10, 11, 12, 13, 14, 15, 16, 17, 18, 19, 20, 21, 22, 23, 24, 25, 26, 27, 28]] [] (by kernel_rfl) (by kernel_rfl) (by decide) rfl ?_; simp only [go_sem, hm])
    | (refine AWP.here 11 57 21 rfl ?_; refine AWP.regionAs [0, 1, 2, 3, 4, 5, 6, 7, 8, 9, 10, 11, 12, 15, 16, 13, 14, 17, 18, 19, 20] [[], [], [0, 1], [0, 1, 2], [], [4], [0, 1, 2, 3, 4, 5], [0, 1, 2, 3, 4, 5, 6], [], [8], [0, 1, 2, 3, 4, 5, 6, 7, 8, 9], [], [11], [11, 12], [0, 1, 2, 3, 4, 5, 6, 7, 8, 9, 10, 11, 12, 13], [], [15], [11, 12, 13, 15, 16], [0, 1, 2, 3, 4, 5, 6, 7, 8, 9, 10, 11, 12, 13, 14, 15, 16, 17], [0, 1, 2, 3, 4, 5, 6, 7, 8, 9, 10, 11, 12, 13, 14, 15, 16, 17, 18], [0, 1, 2, 3, 4, 5, 6, 7, 8, 9, 10, 11, 12, 13, 14, 15, 16, 17, 18, 19]] [] (by kernel_rfl) (by kernel_rfl) (by decide) rfl ?_; simp only [go_sem, hm])
    | (refine AWP.here 16 82 46 rfl ?_; refine AWP.regionAs [0, 1, 2, 3, 4, 5, 9, 10, 13, 16, 17, 20, 21, 24, 25, 28, 29, 32, 33, 36, 37, 40, 41, 6, 7, 8, 11, 12, 14, 15, 18, 19, 22, 23, 26, 27, 30, 31, 34, 35, 38, 39, 42, 43, 44, 45] [[], [], [0, 1], [0, 1, 2], [], [4], [4, 5], [0, 1, 2, 3, 4, 5, 6], [0, 1, 2, 3, 4, 5, 6, 7], [], [9], [0, 1, 2, 3, 4, 5, 6, 7, 8, 9, 10], [0, 1, 2, 3, 4, 5, 6, 7, 8, 9, 10, 11], [], [0, 1, 2, 3, 4, 5, 6, 7, 8, 9, 10, 11, 12, 13], [0, 1, 2, 3, 4, 5, 6, 7, 8, 9, 10, 11, 12, 13, 14], [], [16], [0, 1, 2, 3, 4, 5, 6, 7, 8, 9, 10, 11, 12, 13, 14, 15, 16, 17], [0, 1, 2, 3, 4, 5, 6, 7, 8, 9, 10, 11, 12, 13, 14, 15, 16, 17, 18], [], [20], [0, 1, 2, 3, 4, 5, 6, 7, 8, 9, 10, 11, 12, 13, 14, 15, 16, 17, 18, 19, 20, 21], [0, 1, 2, 3, 4, 5, 6, 7, 8, 9, 10, 11, 12, 13, 14, 15, 16, 17, 18, 19, 20, 21, 22], [], [24], [0, 1, 2, 3, 4, 5, 6, 7, 8, 9, 10, 11, 12, 13, 14, 15, 16, 17, 18, 19, 20, 21, 22, 23, 24, 25], [0, 1, 2, 3, 4, 5, 6, 7, 8, 9, 10, 11, 12, 13, 14, 15, 16, 17, 18, 19, 20, 21, 22, 23, 24, 25, 26], [], [28], [4, 5, 6, 28, 29], [0, 1, 2, 3, 4, 5, 6, 7, 8, 9, 10, 11, 12, 13, 14, 15, 16, 17, 18, 19, 20, 21, 22, 23, 24, 25, 26, 27, 28, 29, 30], [], [32], [4, 5, 6, 28, 29, 30, 32, 33], [0, 1, 2, 3, 4, 5, 6, 7, 8, 9, 10, 11, 12, 13, 14, 15, 16, 17, 18, 19, 20, 21, 22, 23, 24, 25, 26, 27, 28, 29, 30, 31, 32, 33, 34], [], [36], [4, 5, 6, 28, 29, 30, 32, 33, 34, 36, 37], [0, 1, 2, 3, 4, 5, 6, 7, 8, 9, 10, 11, 12, 13, 14, 15, 16, 17, 18, 19, 20, 21, 22, 23, 24, 25, 26, 27, 28, 29, 30, 31, 32, 33, 34, 35, 36, 37, 38], [], [40], [4, 5, 6, 28, 29, 30, 32, 33, 34, 36, 37, 38, 40, 41], [0, 1, 2, 3, 4, 5, 6, 7, 8, 9, 10, 11, 12, 13, 14, 15, 16, 17, 18, 19, 20, 21, 22, 23, 24, 25, 26, 27, 28, 29, 30, 31, 32, 33, 34, 35, 36, 37, 38, 39, 40, 41, 42], [0, 1, 2, 3, 4, 5, 6, 7, 8, 9, 10, 11, 12, 13, 14, 15, 16, 17, 18, 19, 20, 21, 22, 23, 24, 25, 26, 27, 28, 29, 30, 31, 32, 33, 34, 35, 36, 37, 38, 39, 40, 41, 42, 43], [0, 1, 2, 3, 4, 5, 6, 7, 8, 9, 10, 11, 12, 13, 14, 15, 16, 17, 18, 19, 20, 21, 22, 23, 24, 25, 26, 27, 28, 29, 30, 31, 32, 33, 34, 35, 36, 37, 38, 39, 40, 41, 42, 43, 44]] [] (by kernel_rfl) (by kernel_rfl) (by decide) rfl ?_; simp only [go_sem, hm])
    | (refine AWP.here 26 158 27 rfl ?_; refine AWP.regionAs [0, 1, 2, 3, 4, 5, 6, 7, 8, 9, 10, 13, 14, 17, 18, 21, 22, 11, 12, 15, 16, 19, 20, 23, 24, 25, 26] [[], [0], [], [2], [0, 1, 2, 3], [0, 1, 2, 3, 4], [], [6], [0, 1, 2, 3, 4, 5, 6, 7], [], [9], [9, 10], [0, 1, 2, 3, 4, 5, 6, 7, 8, 9, 10, 11], [], [13], [9, 10, 11, 13, 14], [0, 1, 2, 3, 4, 5, 6, 7, 8, 9, 10, 11, 12, 13, 14, 15], [], [17], [9, 10, 11, 13, 14, 15, 17, 18], [0, 1, 2, 3, 4, 5, 6, 7, 8, 9, 10, 11, 12, 13, 14, 15, 16, 17, 18, 19], [], [21], [9, 10, 11, 13, 14, 15, 17, 18, 19, 21, 22], [0, 1, 2, 3, 4, 5, 6, 7, 8, 9, 10, 11, 12, 13, 14, 15, 16, 17, 18, 19, 20, 21, 22, 23], [0, 1, 2, 3, 4, 5, 6, 7, 8, 9, 10, 11, 12, 13, 14, 15, 16, 17, 18, 19, 20, 21, 22, 23, 24], [0, 1, 2, 3, 4, 5, 6, 7, 8, 9, 10, 11, 12, 13, 14, 15, 16, 17, 18, 19, 20, 21, 22, 23, 24, 25]] [] (by kernel_rfl) (by kernel_rfl) (by decide) rfl ?_; simp only [go_sem, hm])
    | (refine hK _ ?_; clear hK K)
    | refine AWP.block ?_
    | refine AWP.cond rfl (fun c => ?_) (fun c => ?_) <;> first | exact Bool.noConfusion c | (try simp only [dD] at c)
    | refine AWP.skip ?_
    | (refine AWP.exit ?_; simp only [go_sem, hm])
    | (refine ACall.one (r20may_c ⟨2, venue, ord, id, exec, now, on, lim⟩ ha) (by kernel_rfl) rfl ?_; simp only [go_sem, hm])
    | (refine ACall.one (r23name_c 2 (by omega) (by omega)) (by kernel_rfl) rfl ?_; simp only [go_sem, hm])
    | (refine ACall.one (r23num_c _) (by kernel_rfl) rfl ?_; simp only [go_sem, hm])
    | (refine ACall.one (r23side_c _) (by kernel_rfl) rfl ?_; simp only [go_sem, hm])
    | (refine ACall.one (r23exec_c exec.kind (by omega) (by omega)) (by kernel_rfl) rfl ?_; simp only [go_sem, hm])
    | (refine ACall.one (r23on_c _) (by kernel_rfl) rfl ?_; simp only [go_sem, hm])
    | (refine AGet.haveM (by assumption) ?_; (try simp only [go_sem, hm]))
    | (refine AGet.have' (by assumption) ?_; (try simp only [go_sem, hm]))
    | ((first | refine AGet.nth ?_ (fun b hb => ?_) | refine AGet.nth1 ?_ (fun b hb => ?_) | with_reducible refine And.intro ?_ ?_); (focus (first | omega | assumption | exact List.length_pos_iff.2 (by assumption) | (simp only [List.length_append, List.length_cons, List.length_nil, List.length_map, List.length_take, List.length_drop] at *; omega) | (rw [wrap64_id (by omega) (by omega)]; omega) | (simp; done) | (simp [spare_len]; done) | (exact ⟨by omega, by omega⟩))); (try simp only [hb, go_sem, hm]))
    | (
        refine AWP.ret ?_
        refine AEnd.is ?_; simp only [go_sem, out_v, out_s, out_n, v_int, v_bool, v_str] <;> (first | (rw [sh_of hm (words2 hk)]; simp [joinW, refW, *]; done) | skip))
    | refine AWP.fin (by assumption) ?_
    | fail)

set_option maxHeartbeats 4000000 in
set_option maxRecDepth 8000 in
theorem r23show_3 (a : Ak) (ha : akOk a) (hm : mayA a = true) (hk : a.kind = 3) : ACalls E 10 [akV a] (fun r t => r = .tup [str (showA a).1, i64 (showA a).2] ∧ t = []) := by -- #sh3
  obtain ⟨kind, venue, ord, id, exec, now, on, lim⟩ := a
  dsimp only at hk
  subst hk
  have hk : (⟨3, venue, ord, id, exec, now, on, lim⟩ : Ak).kind = 3 := rfl
  have hnl := (name_len (may_kind hm)).1
  have hlv := Fld.show_len venue
  have hw := wl hm (words3 hk)
  simp only [List.forall_mem_cons, List.forall_mem_nil] at hw
  dsimp only at hnl hw
  have hrl := ref_len exec.ref (by omega)
  have hxk := exec_kind8 hm hk
  dsimp only at hxk
  have hxl := ex_len hxk
  refine ACalls.of_awp (n := 183) (rs := [.tmp 2, .tmp 3]) Tryz.func10 rfl Tryz.ntmps10 rfl ?_
  repeat' (first
    | refine AWP.seqk fun K hK => ?_
    | (refine AWP.region ?_; simp only [go_sem, hm])
    | (refine AWP.here 9 27 30 rfl ?_; refine AWP.regionAs [0, 1, 2, 3, 4, 5, 6, 7, 8, 9, 10, 11, 12, 13, 14, 15, 16, 17, 20, 21, 24, 25, 18, 19, 22, 23, 26, 27, 28, 29] [[], [], [0, 1], [0, 1, 2], [], [4], [0, 1, 2, 3, 4, 5], [0, 1, 2, 3, 4, 5, 6], [], [8], [0, 1, 2, 3, 4, 5, 6, 7, 8, 9], [0, 1, 2, 3, 4, 5, 6, 7, 8, 9, 10], [], [12], [0, 1, 2, 3, 4, 5, 6, 7, 8, 9, 10, 11, 12, 13], [0, 1, 2, 3, 4, 5, 6, 7, 8, 9, 10, 11, 12, 13, 14], [], [16], [16, 17], [0, 1, 2, 3, 4, 5, 6, 7, 8, 9, 10, 11, 12, 13, 14, 15, 16, 17, 18], [], [20], [16, 17, 18, 20, 21], [0, 1, 2, 3, 4, 5, 6, 7, 8, 9, 10, 11, 12, 13, 14, 15, 16, 17, 18, 19, 20, 21, 22], [], [24], [16, 17, 18, 20, 21, 22, 24, 25], [0, 1, 2, 3, 4, 5, 6, 7, 8, 9, 10, 11, 12, 13, 14, 15, 16, 17, 18, 19, 20, 21, 22, 23, 24, 25, 26], [0, 1, 2, 3, 4, 5, 6, 7, 8, 9, 10, 11, 12, 13, 14, 15, 16, 17, 18, 19, 20, 21, 22, 23, 24, 25, 26, 27], [0, 1, 2, 3, 4, 5, 6, 7, 8, 9, 10, 11, 12, 13, 14, 15, 16, 17, 18, 19, 20, 21, 22, 23, 24, 25, 26, 27, 28]] [] (by kernel_rfl) (by kernel_rfl) (by decide) rfl ?_; simp only [go_sem, hm])
    | (refine AWP.here 11 57 21 rfl ?_; refine AWP.regionAs [0, 1, 2, 3, 4, 5, 6, 7, 8, 9, 10, 11, 12, 15, 16, 13, 14, 17, 18, 19, 20] [[], [], [0, 1], [0, 1, 2], [], [4], [0, 1, 2, 3, 4, 5], [0, 1, 2, 3, 4, 5, 6], [], [8], [0, 1, 2, 3, 4, 5, 6, 7, 8, 9], [], [11], [11, 12], [0, 1, 2, 3, 4, 5, 6, 7, 8, 9, 10, 11, 12, 13], [], [15], [11, 12, 13, 15, 16], [0, 1, 2, 3, 4, 5, 6, 7, 8, 9, 10, 11, 12, 13, 14, 15, 16, 17], [0, 1, 2, 3, 4, 5, 6, 7, 8, 9, 10, 11, 12, 13, 14, 15, 16, 17, 18], [0, 1, 2, 3, 4, 5, 6, 7, 8, 9, 10, 11, 12, 13, 14, 15, 16, 17, 18, 19]] [] (by kernel_rfl) (by kernel_rfl) (by decide) rfl ?_; simp only [go_sem, hm])
    | (refine AWP.here 16 82 46 rfl ?_; refine AWP.regionAs [0, 1, 2, 3, 4, 5, 9, 10, 13, 16, 17, 20, 21, 24, 25, 28, 29, 32, 33, 36, 37, 40, 41, 6, 7, 8, 11, 12, 14, 15, 18, 19, 22, 23, 26, 27, 30, 31, 34, 35, 38, 39, 42, 43, 44, 45] [[], [], [0, 1], [0, 1, 2], [], [4], [4, 5], [0, 1, 2, 3, 4, 5, 6], [0, 1, 2, 3, 4, 5, 6, 7], [], [9], [0, 1, 2, 3, 4, 5, 6, 7, 8, 9, 10], [0, 1, 2, 3, 4, 5, 6, 7, 8, 9, 10, 11], [], [0, 1, 2, 3, 4, 5, 6, 7, 8, 9, 10, 11, 12, 13], [0, 1, 2, 3, 4, 5, 6, 7, 8, 9, 10, 11, 12, 13, 14], [], [16], [0, 1, 2, 3, 4, 5, 6, 7, 8, 9, 10, 11, 12, 13, 14, 15, 16, 17], [0, 1, 2, 3, 4, 5, 6, 7, 8, 9, 10, 11, 12, 13, 14, 15, 16, 17, 18], [], [20], [0, 1, 2, 3, 4, 5, 6, 7, 8, 9, 10, 11, 12, 13, 14, 15, 16, 17, 18, 19, 20, 21], [0, 1, 2, 3, 4, 5, 6, 7, 8, 9, 10, 11, 12, 13, 14, 15, 16, 17, 18, 19, 20, 21, 22], [], [24], [0, 1, 2, 3, 4, 5, 6, 7, 8, 9, 10, 11, 12, 13, 14, 15, 16, 17, 18, 19, 20, 21, 22, 23, 24, 25], [0, 1, 2, 3, 4, 5, 6, 7, 8, 9, 10, 11, 12, 13, 14, 15, 16, 17, 18, 19, 20, 21, 22, 23, 24, 25, 26], [], [28], [4, 5, 6, 28, 29], [0, 1, 2, 3, 4, 5, 6, 7, 8, 9, 10, 11, 12, 13, 14, 15, 16, 17, 18, 19, 20, 21, 22, 23, 24, 25, 26, 27, 28, 29, 30], [], [32], [4, 5, 6, 28, 29, 30, 32, 33], [0, 1, 2, 3, 4, 5, 6, 7, 8, 9, 10, 11, 12, 13, 14, 15, 16, 17, 18, 19, 20, 21, 22, 23, 24, 25, 26, 27, 28, 29, 30, 31, 32, 33, 34], [], [36], [4, 5, 6, 28, 29, 30, 32, 33, 34, 36, 37], [0, 1, 2, 3, 4, 5, 6, 7, 8, 9, 10, 11, 12, 13, 14, 15, 16, 17, 18, 19, 20, 21, 22, 23, 24, 25, 26, 27, 28, 29, 30, 31, 32, 33, 34, 35, 36, 37, 38], [], [40], [4, 5, 6, 28, 29, 30, 32, 33, 34, 36, 37, 38, 40, 41], [0, 1, 2, 3, 4, 5, 6, 7, 8, 9, 10, 11, 12, 13, 14, 15, 16, 17, 18, 19, 20, 21, 22, 23, 24, 25, 26, 27, 28, 29, 30, 31, 32, 33, 34, 35, 36, 37, 38, 39, 40, 41, 42], [0, 1, 2, 3, 4, 5, 6, 7, 8, 9, 10, 11, 12, 13, 14, 15, 16, 17, 18, 19, 20, 21, 22, 23, 24, 25, 26, 27, 28, 29, 30, 31, 32, 33, 34, 35, 36, 37, 38, 39, 40, 41, 42, 43], [0, 1, 2, 3, 4, 5, 6, 7, 8, 9, 10, 11, 12, 13, 14, 15, 16, 17, 18, 19, 20, 21, 22, 23, 24, 25, 26, 27, 28, 29, 30, 31, 32, 33, 34, 35, 36, 37, 38, 39, 40, 41, 42, 43, 44]] [] (by kernel_rfl) (by kernel_rfl) (by decide) rfl ?_; simp only [go_sem, hm])
    | (refine AWP.here 26 158 27 rfl ?_; refine AWP.regionAs [0, 1, 2, 3, 4, 5, 6, 7, 8, 9, 10, 13, 14, 17, 18, 21, 22, 11, 12, 15, 16, 19, 20, 23, 24, 25, 26] [[], [0], [], [2], [0, 1, 2, 3], [0, 1, 2, 3, 4], [], [6], [0, 1, 2, 3, 4, 5, 6, 7], [], [9], [9, 10], [0, 1, 2, 3, 4, 5, 6, 7, 8, 9, 10, 11], [], [13], [9, 10, 11, 13, 14], [0, 1, 2, 3, 4, 5, 6, 7, 8, 9, 10, 11, 12, 13, 14, 15], [], [17], [9, 10, 11, 13, 14, 15, 17, 18], [0, 1, 2, 3, 4, 5, 6, 7, 8, 9, 10, 11, 12, 13, 14, 15, 16, 17, 18, 19], [], [21], [9, 10, 11, 13, 14, 15, 17, 18, 19, 21, 22], [0, 1, 2, 3, 4, 5, 6, 7, 8, 9, 10, 11, 12, 13, 14, 15, 16, 17, 18, 19, 20, 21, 22, 23], [0, 1, 2, 3, 4, 5, 6, 7, 8, 9, 10, 11, 12, 13, 14, 15, 16, 17, 18, 19, 20, 21, 22, 23, 24], [0, 1, 2, 3, 4, 5, 6, 7, 8, 9, 10, 11, 12, 13, 14, 15, 16, 17, 18, 19, 20, 21, 22, 23, 24, 25]] [] (by kernel_rfl) (by kernel_rfl) (by decide) rfl ?_; simp only [go_sem, hm])
    | (refine hK _ ?_; clear hK K)
    | refine AWP.block ?_
    | refine AWP.cond rfl (fun c => ?_) (fun c => ?_) <;> first | exact Bool.noConfusion c | (try simp only [dD] at c)
    | refine AWP.skip ?_
    | (refine AWP.exit ?_; simp only [go_sem, hm])
    | (refine ACall.one (r20may_c ⟨3, venue, ord, id, exec, now, on, lim⟩ ha) (by kernel_rfl) rfl ?_; simp only [go_sem, hm])
    | (refine ACall.one (r23name_c 3 (by omega) (by omega)) (by kernel_rfl) rfl ?_; simp only [go_sem, hm])
    | (refine ACall.one (r23num_c _) (by kernel_rfl) rfl ?_; simp only [go_sem, hm])
    | (refine ACall.one (r23side_c _) (by kernel_rfl) rfl ?_; simp only [go_sem, hm])
    | (refine ACall.one (r23exec_c exec.kind (by omega) (by omega)) (by kernel_rfl) rfl ?_; simp only [go_sem, hm])
    | (refine ACall.one (r23on_c _) (by kernel_rfl) rfl ?_; simp only [go_sem, hm])
    | (refine AGet.haveM (by assumption) ?_; (try simp only [go_sem, hm]))
    | (refine AGet.have' (by assumption) ?_; (try simp only [go_sem, hm]))
    | ((first | refine AGet.nth ?_ (fun b hb => ?_) | refine AGet.nth1 ?_ (fun b hb => ?_) | with_reducible refine And.intro ?_ ?_); (focus (first | omega | assumption | exact List.length_pos_iff.2 (by assumption) | (simp only [List.length_append, List.length_cons, List.length_nil, List.length_map, List.length_take, List.length_drop] at *; omega) | (rw [wrap64_id (by omega) (by omega)]; omega) | (simp; done) | (simp [spare_len]; done) | (exact ⟨by omega, by omega⟩))); (try simp only [hb, go_sem, hm]))
    | (
        refine AWP.ret ?_
        refine AEnd.is ?_; simp only [go_sem, out_v, out_s, out_n, v_int, v_bool, v_str] <;> (first | (rw [sh_of hm (words3 hk)]; simp [joinW, refW, *]; done) | skip))
    | refine AWP.fin (by assumption) ?_
    | fail)

set_option maxHeartbeats 4000000 in
set_option maxRecDepth 8000 in
theorem r23show_4 (a : Ak) (ha : akOk a) (hm : mayA a = true) (hk : a.kind = 4) : ACalls E 10 [akV a] (fun r t => r = .tup [str (showA a).1, i64 (showA a).2] ∧ t = []) := by -- #sh4
  obtain ⟨kind, venue, ord, id, exec, now, on, lim⟩ := a
  dsimp only at hk
  subst hk
  have hk : (⟨4, venue, ord, id, exec, now, on, lim⟩ : Ak).kind = 4 := rfl
  have hnl := (name_len (may_kind hm)).1
  have hlv := Fld.show_len venue
  have hw := wl hm (words4 hk)
  simp only [List.forall_mem_cons, List.forall_mem_nil] at hw
  dsimp only at hnl hw
  refine ACalls.of_awp (n := 183) (rs := [.tmp 2, .tmp 3]) Tryz.func10 rfl Tryz.ntmps10 rfl ?_
  repeat' (first
    | refine AWP.seqk fun K hK => ?_
    | (refine AWP.region ?_; simp only [go_sem, hm])
    | (refine AWP.here 9 27 30 rfl ?_; refine AWP.regionAs [0, 1, 2, 3, 4, 5, 6, 7, 8, 9, 10, 11, 12, 13, 14, 15, 16, 17, 20, 21, 24, 25, 18, 19, 22, 23, 26, 27, 28, 29] [[], [], [0, 1], [0, 1, 2], [], [4], [0, 1, 2, 3, 4, 5], [0, 1, 2, 3, 4, 5, 6], [], [8], [0, 1, 2, 3, 4, 5, 6, 7, 8, 9], [0, 1, 2, 3, 4, 5, 6, 7, 8, 9, 10], [], [12], [0, 1, 2, 3, 4, 5, 6, 7, 8, 9, 10, 11, 12, 13], [0, 1, 2, 3, 4, 5, 6, 7, 8, 9, 10, 11, 12, 13, 14], [], [16], [16, 17], [0, 1, 2, 3, 4, 5, 6, 7, 8, 9, 10, 11, 12, 13, 14, 15, 16, 17, 18], [], [20], [16, 17, 18, 20, 21], [0, 1, 2, 3, 4, 5, 6, 7, 8, 9, 10, 11, 12, 13, 14, 15, 16, 17, 18, 19, 20, 21, 22], [], [24], [16, 17, 18, 20, 21, 22, 24, 25], [0, 1, 2, 3, 4, 5, 6, 7, 8, 9, 10, 11, 12, 13, 14, 15, 16, 17, 18, 19, 20, 21, 22, 23, 24, 25, 26], [0, 1, 2, 3, 4, 5, 6, 7, 8, 9, 10, 11, 12, 13, 14, 15, 16, 17, 18, 19, 20, 21, 22, 23, 24, 25, 26, 27], [0, 1, 2, 3, 4, 5, 6, 7, 8, 9, 10, 11, 12, 13, 14, 15, 16, 17, 18, 19, 20, 21, 22, 23, 24, 25, 26, 27, 28]] [] (by kernel_rfl) (by kernel_rfl) (by decide) rfl ?_; simp only [go_sem, hm])
    | (refine AWP.here 11 57 21 rfl ?_; refine AWP.regionAs [0, 1, 2, 3, 4, 5, 6, 7, 8, 9, 10, 11, 12, 15, 16, 13, 14, 17, 18, 19, 20] [[], [], [0, 1], [0, 1, 2], [], [4], [0, 1, 2, 3, 4, 5], [0, 1, 2, 3, 4, 5, 6], [], [8], [0, 1, 2, 3, 4, 5, 6, 7, 8, 9], [], [11], [11, 12], [0, 1, 2, 3, 4, 5, 6, 7, 8, 9, 10, 11, 12, 13], [], [15], [11, 12, 13, 15, 16], [0, 1, 2, 3, 4, 5, 6, 7, 8, 9, 10, 11, 12, 13, 14, 15, 16, 17], [0, 1, 2, 3, 4, 5, 6, 7, 8, 9, 10, 11, 12, 13, 14, 15, 16, 17, 18], [0, 1, 2, 3, 4, 5, 6, 7, 8, 9, 10, 11, 12, 13, 14, 15, 16, 17, 18, 19]] [] (by kernel_rfl) (by kernel_rfl) (by decide) rfl ?_; simp only [go_sem, hm])
    | (refine AWP.here 16 82 46 rfl ?_; refine AWP.regionAs [0, 1, 2, 3, 4, 5, 9, 10, 13, 16, 17, 20, 21, 24, 25, 28, 29, 32, 33, 36, 37, 40, 41, 6, 7, 8, 11, 12, 14, 15, 18, 19, 22, 23, 26, 27, 30, 31, 34, 35, 38, 39, 42, 43, 44, 45] [[], [], [0, 1], [0, 1, 2], [], [4], [4, 5], [0, 1, 2, 3, 4, 5, 6], [0, 1, 2, 3, 4, 5, 6, 7], [], [9], [0, 1, 2, 3, 4, 5, 6, 7, 8, 9, 10], [0, 1, 2, 3, 4, 5, 6, 7, 8, 9, 10, 11], [], [0, 1, 2, 3, 4, 5, 6, 7, 8, 9, 10, 11, 12, 13], [0, 1, 2, 3, 4, 5, 6, 7, 8, 9, 10, 11, 12, 13, 14], [], [16], [0, 1, 2, 3, 4, 5, 6, 7, 8, 9, 10, 11, 12, 13, 14, 15, 16, 17], [0, 1, 2, 3, 4, 5, 6, 7, 8, 9, 10, 11, 12, 13, 14, 15, 16, 17, 18], [], [20], [0, 1, 2, 3, 4, 5, 6, 7, 8, 9, 10, 11, 12, 13, 14, 15, 16, 17, 18, 19, 20, 21], [0, 1, 2, 3, 4, 5, 6, 7, 8, 9, 10, 11, 12, 13, 14, 15, 16, 17, 18, 19, 20, 21, 22], [], [24], [0, 1, 2, 3, 4, 5, 6, 7, 8, 9, 10, 11, 12, 13, 14, 15, 16, 17, 18, 19, 20, 21, 22, 23, 24, 25], [0, 1, 2, 3, 4, 5, 6, 7, 8, 9, 10, 11, 12, 13, 14, 15, 16, 17, 18, 19, 20, 21, 22, 23, 24, 25, 26], [], [28], [4, 5, 6, 28, 29], [0, 1, 2, 3, 4, 5, 6, 7, 8, 9, 10, 11, 12, 13, 14, 15, 16, 17, 18, 19, 20, 21, 22, 23, 24, 25, 26, 27, 28, 29, 30], [], [32], [4, 5, 6, 28, 29, 30, 32, 33], [0, 1, 2, 3, 4, 5, 6, 7, 8, 9, 10, 11, 12, 13, 14, 15, 16, 17, 18, 19, 20, 21, 22, 23, 24, 25, 26, 27, 28, 29, 30, 31, 32, 33, 34], [], [36], [4, 5, 6, 28, 29, 30, 32, 33, 34, 36, 37], [0, 1, 2, 3, 4, 5, 6, 7, 8, 9, 10, 11, 12, 13, 14, 15, 16, 17, 18, 19, 20, 21, 22, 23, 24, 25, 26, 27, 28, 29, 30, 31, 32, 33, 34, 35, 36, 37, 38], [], [40], [4, 5, 6, 28, 29, 30, 32, 33, 34, 36, 37, 38, 40, 41], [0, 1, 2, 3, 4, 5, 6, 7, 8, 9, 10, 11, 12, 13, 14, 15, 16, 17, 18, 19, 20, 21, 22, 23, 24, 25, 26, 27, 28, 29, 30, 31, 32, 33, 34, 35, 36, 37, 38, 39, 40, 41, 42], [0, 1, 2, 3, 4, 5, 6, 7, 8, 9, 10, 11, 12, 13, 14, 15, 16, 17, 18, 19, 20, 21, 22, 23, 24, 25, 26, 27, 28, 29, 30, 31, 32, 33, 34, 35, 36, 37, 38, 39, 40, 41, 42, 43], [0, 1, 2, 3, 4, 5, 6, 7, 8, 9, 10, 11, 12, 13, 14, 15, 16, 17, 18, 19, 20, 21, 22, 23, 24, 25, 26, 27, 28, 29, 30, 31, 32, 33, 34, 35, 36, 37, 38, 39, 40, 41, 42, 43, 44]] [] (by kernel_rfl) (by kernel_rfl) (by decide) rfl ?_; simp only [go_sem, hm])
    | (refine AWP.here 26 158 27 rfl ?_; refine AWP.regionAs [0, 1, 2, 3, 4, 5, 6, 7, 8, 9, 10, 13, 14, 17, 18, 21, 22, 11, 12, 15, 16, 19, 20, 23, 24, 25, 26] [[], [0], [], [2], [0, 1, 2, 3], [0, 1, 2, 3, 4], [], [6], [0, 1, 2, 3, 4, 5, 6, 7], [], [9], [9, 10], [0, 1, 2, 3, 4, 5, 6, 7, 8, 9, 10, 11], [], [13], [9, 10, 11, 13, 14], [0, 1, 2, 3, 4, 5, 6, 7, 8, 9, 10, 11, 12, 13, 14, 15], [], [17], [9, 10, 11, 13, 14, 15, 17, 18], [0, 1, 2, 3, 4, 5, 6, 7, 8, 9, 10, 11, 12, 13, 14, 15, 16, 17, 18, 19], [], [21], [9, 10, 11, 13, 14, 15, 17, 18, 19, 21, 22], [0, 1, 2, 3, 4, 5, 6, 7, 8, 9, 10, 11, 12, 13, 14, 15, 16, 17, 18, 19, 20, 21, 22, 23], [0, 1, 2, 3, 4, 5, 6, 7, 8, 9, 10, 11, 12, 13, 14, 15, 16, 17, 18, 19, 20, 21, 22, 23, 24], [0, 1, 2, 3, 4, 5, 6, 7, 8, 9, 10, 11, 12, 13, 14, 15, 16, 17, 18, 19, 20, 21, 22, 23, 24, 25]] [] (by kernel_rfl) (by kernel_rfl) (by decide) rfl ?_; simp only [go_sem, hm])
    | (refine hK _ ?_; clear hK K)
    | refine AWP.block ?_
    | refine AWP.cond rfl (fun c => ?_) (fun c => ?_) <;> first | exact Bool.noConfusion c | (try simp only [dD] at c)
    | refine AWP.skip ?_
    | (refine AWP.exit ?_; simp only [go_sem, hm])
    | (refine ACall.one (r20may_c ⟨4, venue, ord, id, exec, now, on, lim⟩ ha) (by kernel_rfl) rfl ?_; simp only [go_sem, hm])
    | (refine ACall.one (r23name_c 4 (by omega) (by omega)) (by kernel_rfl) rfl ?_; simp only [go_sem, hm])
    | (refine ACall.one (r23num_c _) (by kernel_rfl) rfl ?_; simp only [go_sem, hm])
    | (refine ACall.one (r23side_c _) (by kernel_rfl) rfl ?_; simp only [go_sem, hm])
    | (refine ACall.one (r23exec_c exec.kind (by omega) (by omega)) (by kernel_rfl) rfl ?_; simp only [go_sem, hm])
    | (refine ACall.one (r23on_c _) (by kernel_rfl) rfl ?_; simp only [go_sem, hm])
    | (refine AGet.haveM (by assumption) ?_; (try simp only [go_sem, hm]))
    | (refine AGet.have' (by assumption) ?_; (try simp only [go_sem, hm]))
    | ((first | refine AGet.nth ?_ (fun b hb => ?_) | refine AGet.nth1 ?_ (fun b hb => ?_) | with_reducible refine And.intro ?_ ?_); (focus (first | omega | assumption | exact List.length_pos_iff.2 (by assumption) | (simp only [List.length_append, List.length_cons, List.length_nil, List.length_map, List.length_take, List.length_drop] at *; omega) | (rw [wrap64_id (by omega) (by omega)]; omega) | (simp; done) | (simp [spare_len]; done) | (exact ⟨by omega, by omega⟩))); (try simp only [hb, go_sem, hm]))
    | (
        refine AWP.ret ?_
        refine AEnd.is ?_; simp only [go_sem, out_v, out_s, out_n, v_int, v_bool, v_str] <;> (first | (rw [sh_of hm (words4 hk)]; simp [joinW, refW, *]; done) | skip))
    | refine AWP.fin (by assumption) ?_
    | fail)

set_option maxHeartbeats 4000000 in
set_option maxRecDepth 8000 in
theorem r23show_5 (a : Ak) (ha : akOk a) (hm : mayA a = true) (hk : a.kind = 5) : ACalls E 10 [akV a] (fun r t => r = .tup [str (showA a).1, i64 (showA a).2] ∧ t = []) := by -- #sh5
  obtain ⟨kind, venue, ord, id, exec, now, on, lim⟩ := a
  dsimp only at hk
  subst hk
  have hk : (⟨5, venue, ord, id, exec, now, on, lim⟩ : Ak).kind = 5 := rfl
  have hnl := (name_len (may_kind hm)).1
  have hlv := Fld.show_len venue
  have hw := wl hm (words5 hk)
  simp only [List.forall_mem_cons, List.forall_mem_nil] at hw
  dsimp only at hnl hw
  refine ACalls.of_awp (n := 183) (rs := [.tmp 2, .tmp 3]) Tryz.func10 rfl Tryz.ntmps10 rfl ?_
  repeat' (first
    | refine AWP.seqk fun K hK => ?_
    | (refine AWP.region ?_; simp only [go_sem, hm])
    | (refine AWP.here 9 27 30 rfl ?_; refine AWP.regionAs [0, 1, 2, 3, 4, 5, 6, 7, 8, 9, 10, 11, 12, 13, 14, 15, 16, 17, 20, 21, 24, 25, 18, 19, 22, 23, 26, 27, 28, 29] [[], [], [0, 1], [0, 1, 2], [], [4], [0, 1, 2, 3, 4, 5], [0, 1, 2, 3, 4, 5, 6], [], [8], [0, 1, 2, 3, 4, 5, 6, 7, 8, 9], [0, 1, 2, 3, 4, 5, 6, 7, 8, 9, 10], [], [12], [0, 1, 2, 3, 4, 5, 6, 7, 8, 9, 10, 11, 12, 13], [0, 1, 2, 3, 4, 5, 6, 7, 8, 9, 10, 11, 12, 13, 14], [], [16], [16, 17], [0, 1, 2, 3, 4, 5, 6, 7, 8, 9, 10, 11, 12, 13, 14, 15, 16, 17, 18], [], [20], [16, 17, 18, 20, 21], [0, 1, 2, 3, 4, 5, 6, 7, 8, 9, 10, 11, 12, 13, 14, 15, 16, 17, 18, 19, 20, 21, 22], [], [24], [16, 17, 18, 20, 21, 22, 24, 25], [0, 1, 2, 3, 4, 5, 6, 7, 8, 9, 10, 11, 12, 13, 14, 15, 16, 17, 18, 19, 20, 21, 22, 23, 24, 25, 26], [0, 1, 2, 3, 4, 5, 6, 7, 8, 9, 10, 11, 12, 13, 14, 15, 16, 17, 18, 19, 20, 21, 22, 23, 24, 25, 26, 27], [0, 1, 2, 3, 4, 5, 6, 7, 8, 9, 10, 11, 12, 13, 14, 15, 16, 17, 18, 19, 20, 21, 22, 23, 24, 25, 26, 27, 28]] [] (by kernel_rfl) (by kernel_rfl) (by decide) rfl ?_; simp only [go_sem, hm])
    | (refine AWP.here 11 57 21 rfl ?_; refine AWP.regionAs [0, 1, 2, 3, 4, 5, 6, 7, 8, 9, 10, 11, 12, 15, 16, 13, 14, 17, 18, 19, 20] [[], [], [0, 1], [0, 1, 2], [], [4], [0, 1, 2, 3, 4, 5], [0, 1, 2, 3, 4, 5, 6], [], [8], [0, 1, 2, 3, 4, 5, 6, 7, 8, 9], [], [11], [11, 12], [0, 1, 2, 3, 4, 5, 6, 7, 8, 9, 10, 11, 12, 13], [], [15], [11, 12, 13, 15, 16], [0, 1, 2, 3, 4, 5, 6, 7, 8, 9, 10, 11, 12, 13, 14, 15, 16, 17], [0, 1, 2, 3, 4, 5, 6, 7, 8, 9, 10, 11, 12, 13, 14, 15, 16, 17, 18], [0, 1, 2, 3, 4, 5, 6, 7, 8, 9, 10, 11, 12, 13, 14, 15, 16, 17, 18, 19]] [] (by kernel_rfl) (by kernel_rfl) (by decide) rfl ?_; simp only [go_sem, hm])
    | (refine AWP.here 16 82 46 rfl ?_; refine AWP.regionAs [0, 1, 2, 3, 4, 5, 9, 10, 13, 16, 17, 20, 21, 24, 25, 28, 29, 32, 33, 36, 37, 40, 41, 6, 7, 8, 11, 12, 14, 15, 18, 19, 22, 23, 26, 27, 30, 31, 34, 35, 38, 39, 42, 43, 44, 45] [[], [], [0, 1], [0, 1, 2], [], [4], [4, 5], [0, 1, 2, 3, 4, 5, 6], [0, 1, 2, 3, 4, 5, 6, 7], [], [9], [0, 1, 2, 3, 4, 5, 6, 7, 8, 9, 10], [0, 1, 2, 3, 4, 5, 6, 7, 8, 9, 10, 11], [], [0, 1, 2, 3, 4, 5, 6, 7, 8, 9, 10, 11, 12, 13], [0, 1, 2, 3, 4, 5, 6, 7, 8, 9, 10, 11, 12, 13, 14], [], [16], [0, 1, 2, 3, 4, 5, 6, 7, 8, 9, 10, 11, 12, 13, 14, 15, 16, 17], [0, 1, 2, 3, 4, 5, 6, 7, 8, 9, 10, 11, 12, 13, 14, 15, 16, 17, 18], [], [20], [0, 1, 2, 3, 4, 5, 6, 7, 8, 9, 10, 11, 12, 13, 14, 15, 16, 17, 18, 19, 20, 21], [0, 1, 2, 3, 4, 5, 6, 7, 8, 9, 10, 11, 12, 13, 14, 15, 16, 17, 18, 19, 20, 21, 22], [], [24], [0, 1, 2, 3, 4, 5, 6, 7, 8, 9, 10, 11, 12, 13, 14, 15, 16, 17, 18, 19, 20, 21, 22, 23, 24, 25], [0, 1, 2, 3, 4, 5, 6, 7, 8, 9, 10, 11, 12, 13, 14, 15, 16, 17, 18, 19, 20, 21, 22, 23, 24, 25, 26], [], [28], [4, 5, 6, 28, 29], [0, 1, 2, 3, 4, 5, 6, 7, 8, 9, 10, 11, 12, 13, 14, 15, 16, 17, 18, 19, 20, 21, 22, 23, 24, 25, 26, 27, 28, 29, 30], [], [32], [4, 5, 6, 28, 29, 30, 32, 33], [0, 1, 2, 3, 4, 5, 6, 7, 8, 9, 10, 11, 12, 13, 14, 15, 16, 17, 18, 19, 20, 21, 22, 23, 24, 25, 26, 27, 28, 29, 30, 31, 32, 33, 34], [], [36], [4, 5, 6, 28, 29, 30, 32, 33, 34, 36, 37], [0, 1, 2, 3, 4, 5, 6, 7, 8, 9, 10, 11, 12, 13, 14, 15, 16, 17, 18, 19, 20, 21, 22, 23, 24, 25, 26, 27, 28, 29, 30, 31, 32, 33, 34, 35, 36, 37, 38], [], [40], [4, 5, 6, 28, 29, 30, 32, 33, 34, 36, 37, 38, 40, 41], [0, 1, 2, 3, 4, 5, 6, 7, 8, 9, 10, 11, 12, 13, 14, 15, 16, 17, 18, 19, 20, 21, 22, 23, 24, 25, 26, 27, 28, 29, 30, 31, 32, 33, 34, 35, 36, 37, 38, 39, 40, 41, 42], [0, 1, 2, 3, 4, 5, 6, 7, 8, 9, 10, 11, 12, 13, 14, 15, 16, 17, 18, 19, 20, 21, 22, 23, 24, 25, 26, 27, 28, 29, 30, 31, 32, 33, 34, 35, 36, 37, 38, 39, 40, 41, 42, 43], [0, 1, 2, 3, 4, 5, 6, 7, 8, 9, 10, 11, 12, 13, 14, 15, 16, 17, 18, 19, 20, 21, 22, 23, 24, 25, 26, 27, 28, 29, 30, 31, 32, 33, 34, 35, 36, 37, 38, 39, 40, 41, 42, 43, 44]] [] (by kernel_rfl) (by kernel_rfl) (by decide) rfl ?_; simp only [go_sem, hm])
    | (refine AWP.here 26 158 27 rfl ?_; refine AWP.regionAs [0, 1, 2, 3, 4, 5, 6, 7, 8, 9, 10, 13, 14, 17, 18, 21, 22, 11, 12, 15, 16, 19, 20, 23, 24, 25, 26] [[], [0], [], [2], [0, 1, 2, 3], [0, 1, 2, 3, 4], [], [6], [0, 1, 2, 3, 4, 5, 6, 7], [], [9], [9, 10], [0, 1, 2, 3, 4, 5, 6, 7, 8, 9, 10, 11], [], [13], [9, 10, 11, 13, 14], [0, 1, 2, 3, 4, 5, 6, 7, 8, 9, 10, 11, 12, 13, 14, 15], [], [17], [9, 10, 11, 13, 14, 15, 17, 18], [0, 1, 2, 3, 4, 5, 6, 7, 8, 9, 10, 11, 12, 13, 14, 15, 16, 17, 18, 19], [], [21], [9, 10, 11, 13, 14, 15, 17, 18, 19, 21, 22], [0, 1, 2, 3, 4, 5, 6, 7, 8, 9, 10, 11, 12, 13, 14, 15, 16, 17, 18, 19, 20, 21, 22, 23], [0, 1, 2, 3, 4, 5, 6, 7, 8, 9, 10, 11, 12, 13, 14, 15, 16, 17, 18, 19, 20, 21, 22, 23, 24], [0, 1, 2, 3, 4, 5, 6, 7, 8, 9, 10, 11, 12, 13, 14, 15, 16, 17, 18, 19, 20, 21, 22, 23, 24, 25]] [] (by kernel_rfl) (by kernel_rfl) (by decide) rfl ?_; simp only [go_sem, hm])
    | (refine hK _ ?_; clear hK K)
    | refine AWP.block ?_
    | refine AWP.cond rfl (fun c => ?_) (fun c => ?_) <;> first | exact Bool.noConfusion c | (try simp only [dD] at c)
    | refine AWP.skip ?_
    | (refine AWP.exit ?_; simp only [go_sem, hm])
    | (refine ACall.one (r20may_c ⟨5, venue, ord, id, exec, now, on, lim⟩ ha) (by kernel_rfl) rfl ?_; simp only [go_sem, hm])
    | (refine ACall.one (r23name_c 5 (by omega) (by omega)) (by kernel_rfl) rfl ?_; simp only [go_sem, hm])
    | (refine ACall.one (r23num_c _) (by kernel_rfl) rfl ?_; simp only [go_sem, hm])
    | (refine ACall.one (r23side_c _) (by kernel_rfl) rfl ?_; simp only [go_sem, hm])
    | (refine ACall.one (r23exec_c exec.kind (by omega) (by omega)) (by kernel_rfl) rfl ?_; simp only [go_sem, hm])
    | (refine ACall.one (r23on_c _) (by kernel_rfl) rfl ?_; simp only [go_sem, hm])
    | (refine AGet.haveM (by assumption) ?_; (try simp only [go_sem, hm]))
    | (refine AGet.have' (by assumption) ?_; (try simp only [go_sem, hm]))
    | ((first | refine AGet.nth ?_ (fun b hb => ?_) | refine AGet.nth1 ?_ (fun b hb => ?_) | with_reducible refine And.intro ?_ ?_); (focus (first | omega | assumption | exact List.length_pos_iff.2 (by assumption) | (simp only [List.length_append, List.length_cons, List.length_nil, List.length_map, List.length_take, List.length_drop] at *; omega) | (rw [wrap64_id (by omega) (by omega)]; omega) | (simp; done) | (simp [spare_len]; done) | (exact ⟨by omega, by omega⟩))); (try simp only [hb, go_sem, hm]))
    | (
        refine AWP.ret ?_
        refine AEnd.is ?_; simp only [go_sem, out_v, out_s, out_n, v_int, v_bool, v_str] <;> (first | (rw [sh_of hm (words5 hk)]; simp [joinW, refW, *]; done) | skip))
    | refine AWP.fin (by assumption) ?_
    | fail)

set_option maxHeartbeats 4000000 in
set_option maxRecDepth 8000 in
theorem r23show_6 (a : Ak) (ha : akOk a) (hm : mayA a = true) (hk : a.kind = 6) : ACalls E 10 [akV a] (fun r t => r = .tup [str (showA a).1, i64 (showA a).2] ∧ t = []) := by -- #sh6
  obtain ⟨kind, venue, ord, id, exec, now, on, lim⟩ := a
  dsimp only at hk
  subst hk
  have hk : (⟨6, venue, ord, id, exec, now, on, lim⟩ : Ak).kind = 6 := rfl
  have hnl := (name_len (may_kind hm)).1
  have hlv := Fld.show_len venue
  have hw := wl hm (words6 hk)
  simp only [List.forall_mem_cons, List.forall_mem_nil] at hw
  dsimp only at hnl hw
  refine ACalls.of_awp (n := 183) (rs := [.tmp 2, .tmp 3]) Tryz.func10 rfl Tryz.ntmps10 rfl ?_
  repeat' (first
    | refine AWP.seqk fun K hK => ?_
    | (refine AWP.region ?_; simp only [go_sem, hm])
    | (refine AWP.here 9 27 30 rfl ?_; refine AWP.regionAs [0, 1, 2, 3, 4, 5, 6, 7, 8, 9, 10, 11, 12, 13, 14, 15, 16, 17, 20, 21, 24, 25, 18, 19, 22, 23, 26, 27, 28, 29] [[], [], [0, 1], [0, 1, 2], [], [4], [0, 1, 2, 3, 4, 5], [0, 1, 2, 3, 4, 5, 6], [], [8], [0, 1, 2, 3, 4, 5, 6, 7, 8, 9], [0, 1, 2, 3, 4, 5, 6, 7, 8, 9, 10], [], [12], [0, 1, 2, 3, 4, 5, 6, 7, 8, 9, 10, 11, 12, 13], [0, 1, 2, 3, 4, 5, 6, 7, 8, 9, 10, 11, 12, 13, 14], [], [16], [16, 17], [0, 1, 2, 3, 4, 5, 6, 7, 8, 9, 10, 11, 12, 13, 14, 15, 16, 17, 18], [], [20], [16, 17, 18, 20, 21], [0, 1, 2, 3, 4, 5, 6, 7, 8, 9, 10, 11, 12, 13, 14, 15, 16, 17, 18, 19, 20, 21, 22], [], [24], [16, 17, 18, 20, 21, 22, 24, 25], [0, 1, 2, 3, 4, 5, 6, 7, 8, 9, 10, 11, 12, 13, 14, 15, 16, 17, 18, 19, 20, 21, 22, 23, 24, 25, 26], [0, 1, 2, 3, 4, 5, 6, 7, 8, 9, 10, 11, 12, 13, 14, 15, 16, 17, 18, 19, 20, 21, 22, 23, 24, 25, 26, 27], [0, 1, 2, 3, 4, 5, 6, 7, 8, 9, 10, 11, 12, 13, 14, 15, 16, 17, 18, 19, 20, 21, 22, 23, 24, 25, 26, 27, 28]] [] (by kernel_rfl) (by kernel_rfl) (by decide) rfl ?_; simp only [go_sem, hm])
    | (refine AWP.here 11 57 21 rfl ?_; refine AWP.regionAs [0, 1, 2, 3, 4, 5, 6, 7, 8, 9, 10, 11, 12, 15, 16, 13, 14, 17, 18, 19, 20] [[], [], [0, 1], [0, 1, 2], [], [4], [0, 1, 2, 3, 4, 5], [0, 1, 2, 3, 4, 5, 6], [], [8], [0, 1, 2, 3, 4, 5, 6, 7, 8, 9], [], [11], [11, 12], [0, 1, 2, 3, 4, 5, 6, 7, 8, 9, 10, 11, 12, 13], [], [15], [11, 12, 13, 15, 16], [0, 1, 2, 3, 4, 5, 6, 7, 8, 9, 10, 11, 12, 13, 14, 15, 16, 17], [0, 1, 2, 3, 4, 5, 6, 7, 8, 9, 10, 11, 12, 13, 14, 15, 16, 17, 18], [0, 1, 2, 3, 4, 5, 6, 7, 8, 9, 10, 11, 12, 13, 14, 15, 16, 17, 18, 19]] [] (by kernel_rfl) (by kernel_rfl) (by decide) rfl ?_; simp only [go_sem, hm])
    | (refine AWP.here 16 82 46 rfl ?_; refine AWP.regionAs [0, 1, 2, 3, 4, 5, 9, 10, 13, 16, 17, 20, 21, 24, 25, 28, 29, 32, 33, 36, 37, 40, 41, 6, 7, 8, 11, 12, 14, 15, 18, 19, 22, 23, 26, 27, 30, 31, 34, 35, 38, 39, 42, 43, 44, 45] [[], [], [0, 1], [0, 1, 2], [], [4], [4, 5], [0, 1, 2, 3, 4, 5, 6], [0, 1, 2, 3, 4, 5, 6, 7], [], [9], [0, 1, 2, 3, 4, 5, 6, 7, 8, 9, 10], [0, 1, 2, 3, 4, 5, 6, 7, 8, 9, 10, 11], [], [0, 1, 2, 3, 4, 5, 6, 7, 8, 9, 10, 11, 12, 13], [0, 1, 2, 3, 4, 5, 6, 7, 8, 9, 10, 11, 12, 13, 14], [], [16], [0, 1, 2, 3, 4, 5, 6, 7, 8, 9, 10, 11, 12, 13, 14, 15, 16, 17], [0, 1, 2, 3, 4, 5, 6, 7, 8, 9, 10, 11, 12, 13, 14, 15, 16, 17, 18], [], [20], [0, 1, 2, 3, 4, 5, 6, 7, 8, 9, 10, 11, 12, 13, 14, 15, 16, 17, 18, 19, 20, 21], [0, 1, 2, 3, 4, 5, 6, 7, 8, 9, 10, 11, 12, 13, 14, 15, 16, 17, 18, 19, 20, 21, 22], [], [24], [0, 1, 2, 3, 4, 5, 6, 7, 8, 9, 10, 11, 12, 13, 14, 15, 16, 17, 18, 19, 20, 21, 22, 23, 24, 25], [0, 1, 2, 3, 4, 5, 6, 7, 8, 9, 10, 11, 12, 13, 14, 15, 16, 17, 18, 19, 20, 21, 22, 23, 24, 25, 26], [], [28], [4, 5, 6, 28, 29], [0, 1, 2, 3, 4, 5, 6, 7, 8, 9, 10, 11, 12, 13, 14, 15, 16, 17, 18, 19, 20, 21, 22, 23, 24, 25, 26, 27, 28, 29, 30], [], [32], [4, 5, 6, 28, 29, 30, 32, 33], [0, 1, 2, 3, 4, 5, 6, 7, 8, 9, 10, 11, 12, 13, 14, 15, 16, 17, 18, 19, 20, 21, 22, 23, 24, 25, 26, 27, 28, 29, 30, 31, 32, 33, 34], [], [36], [4, 5, 6, 28, 29, 30, 32, 33, 34, 36, 37], [0, 1, 2, 3, 4, 5, 6, 7, 8, 9, 10, 11, 12, 13, 14, 15, 16, 17, 18, 19, 20, 21, 22, 23, 24, 25, 26, 27, 28, 29, 30, 31, 32, 33, 34, 35, 36, 37, 38], [], [40], [4, 5, 6, 28, 29, 30, 32, 33, 34, 36, 37, 38, 40, 41], [0, 1, 2, 3, 4, 5, 6, 7, 8, 9, 10, 11, 12, 13, 14, 15, 16, 17, 18, 19, 20, 21, 22, 23, 24, 25, 26, 27, 28, 29, 30, 31, 32, 33, 34, 35, 36, 37, 38, 39, 40, 41, 42], [0, 1, 2, 3, 4, 5, 6, 7, 8, 9, 10, 11, 12, 13, 14, 15, 16, 17, 18, 19, 20, 21, 22, 23, 24, 25, 26, 27, 28, 29, 30, 31, 32, 33, 34, 35, 36, 37, 38, 39, 40, 41, 42, 43], [0, 1, 2, 3, 4, 5, 6, 7, 8, 9, 10, 11, 12, 13, 14, 15, 16, 17, 18, 19, 20, 21, 22, 23, 24, 25, 26, 27, 28, 29, 30, 31, 32, 33, 34, 35, 36, 37, 38, 39, 40, 41, 42, 43, 44]] [] (by kernel_rfl) (by kernel_rfl) (by decide) rfl ?_; simp only [go_sem, hm])
    | (refine AWP.here 26 158 27 rfl ?_; refine AWP.regionAs [0, 1, 2, 3, 4, 5, 6, 7, 8, 9, 10, 13, 14, 17, 18, 21, 22, 11, 12, 15, 16, 19, 20, 23, 24, 25, 26] [[], [0], [], [2], [0, 1, 2, 3], [0, 1, 2, 3, 4], [], [6], [0, 1, 2, 3, 4, 5, 6, 7], [], [9], [9, 10], [0, 1, 2, 3, 4, 5, 6, 7, 8, 9, 10, 11], [], [13], [9, 10, 11, 13, 14], [0, 1, 2, 3, 4, 5, 6, 7, 8, 9, 10, 11, 12, 13, 14, 15], [], [17], [9, 10, 11, 13, 14, 15, 17, 18], [0, 1, 2, 3, 4, 5, 6, 7, 8, 9, 10, 11, 12, 13, 14, 15, 16, 17, 18, 19], [], [21], [9, 10, 11, 13, 14, 15, 17, 18, 19, 21, 22], [0, 1, 2, 3, 4, 5, 6, 7, 8, 9, 10, 11, 12, 13, 14, 15, 16, 17, 18, 19, 20, 21, 22, 23], [0, 1, 2, 3, 4, 5, 6, 7, 8, 9, 10, 11, 12, 13, 14, 15, 16, 17, 18, 19, 20, 21, 22, 23, 24], [0, 1, 2, 3, 4, 5, 6, 7, 8, 9, 10, 11, 12, 13, 14, 15, 16, 17, 18, 19, 20, 21, 22, 23, 24, 25]] [] (by kernel_rfl) (by kernel_rfl) (by decide) rfl ?_; simp only [go_sem, hm])
    | (refine hK _ ?_; clear hK K)
    | refine AWP.block ?_
    | refine AWP.cond rfl (fun c => ?_) (fun c => ?_) <;> first | exact Bool.noConfusion c | (try simp only [dD] at c)
    | refine AWP.skip ?_
    | (refine AWP.exit ?_; simp only [go_sem, hm])
    | (refine ACall.one (r20may_c ⟨6, venue, ord, id, exec, now, on, lim⟩ ha) (by kernel_rfl) rfl ?_; simp only [go_sem, hm])
    | (refine ACall.one (r23name_c 6 (by omega) (by omega)) (by kernel_rfl) rfl ?_; simp only [go_sem, hm])
    | (refine ACall.one (r23num_c _) (by kernel_rfl) rfl ?_; simp only [go_sem, hm])
    | (refine ACall.one (r23side_c _) (by kernel_rfl) rfl ?_; simp only [go_sem, hm])
    | (refine ACall.one (r23exec_c exec.kind (by omega) (by omega)) (by kernel_rfl) rfl ?_; simp only [go_sem, hm])
    | (refine ACall.one (r23on_c _) (by kernel_rfl) rfl ?_; simp only [go_sem, hm])
    | (refine AGet.haveM (by assumption) ?_; (try simp only [go_sem, hm]))
    | (refine AGet.have' (by assumption) ?_; (try simp only [go_sem, hm]))
    | ((first | refine AGet.nth ?_ (fun b hb => ?_) | refine AGet.nth1 ?_ (fun b hb => ?_) | with_reducible refine And.intro ?_ ?_); (focus (first | omega | assumption | exact List.length_pos_iff.2 (by assumption) | (simp only [List.length_append, List.length_cons, List.length_nil, List.length_map, List.length_take, List.length_drop] at *; omega) | (rw [wrap64_id (by omega) (by omega)]; omega) | (simp; done) | (simp [spare_len]; done) | (exact ⟨by omega, by omega⟩))); (try simp only [hb, go_sem, hm]))
    | (
        refine AWP.ret ?_
        refine AEnd.is ?_; simp only [go_sem, out_v, out_s, out_n, v_int, v_bool, v_str] <;> (first | (rw [sh_of hm (words6 hk)]; simp [joinW, refW, *]; done) | skip))
    | refine AWP.fin (by assumption) ?_
    | fail)

set_option maxHeartbeats 4000000 in
set_option maxRecDepth 8000 in
theorem r23show_7 (a : Ak) (ha : akOk a) (hm : mayA a = true) (hk : a.kind = 7) : ACalls E 10 [akV a] (fun r t => r = .tup [str (showA a).1, i64 (showA a).2] ∧ t = []) := by -- #sh7
  obtain ⟨kind, venue, ord, id, exec, now, on, lim⟩ := a
  dsimp only at hk
  subst hk
  have hk : (⟨7, venue, ord, id, exec, now, on, lim⟩ : Ak).kind = 7 := rfl
  have hnl := (name_len (may_kind hm)).1
  have hlv := Fld.show_len venue
  have hw := wl hm (words7 hk)
  simp only [List.forall_mem_cons, List.forall_mem_nil] at hw
  dsimp only at hnl hw
  refine ACalls.of_awp (n := 183) (rs := [.tmp 2, .tmp 3]) Tryz.func10 rfl Tryz.ntmps10 rfl ?_
  repeat' (first
    | refine AWP.seqk fun K hK => ?_
    | (refine AWP.region ?_; simp only [go_sem, hm])
    | (refine AWP.here 9 27 30 rfl ?_; refine AWP.regionAs [0, 1, 2, 3, 4, 5, 6, 7, 8, 9, 10, 11, 12, 13, 14, 15, 16, 17, 20, 21, 24, 25, 18, 19, 22, 23, 26, 27, 28, 29] [[], [], [0, 1], [0, 1, 2], [], [4], [0, 1, 2, 3, 4, 5], [0, 1, 2, 3, 4, 5, 6], [], [8], [0, 1, 2, 3, 4, 5, 6, 7, 8, 9], [0, 1, 2, 3, 4, 5, 6, 7, 8, 9, 10], [], [12], [0, 1, 2, 3, 4, 5, 6, 7, 8, 9, 10, 11, 12, 13], [0, 1, 2, 3, 4, 5, 6, 7, 8, 9, 10, 11, 12, 13, 14], [], [16], [16, 17], [0, 1, 2, 3, 4, 5, 6, 7, 8, 9, 10, 11, 12, 13, 14, 15, 16, 17, 18], [], [20], [16, 17, 18, 20, 21], [0, 1, 2, 3, 4, 5, 6, 7, 8, 9, 10, 11, 12, 13, 14, 15, 16, 17, 18, 19, 20, 21, 22], [], [24], [16, 17, 18, 20, 21, 22, 24, 25], [0, 1, 2, 3, 4, 5, 6, 7, 8, 9, 10, 11, 12, 13, 14, 15, 16, 17, 18, 19, 20, 21, 22, 23, 24, 25, 26], [0, 1, 2, 3, 4, 5, 6, 7, 8, 9, 10, 11, 12, 13, 14, 15, 16, 17, 18, 19, 20, 21, 22, 23, 24, 25, 26, 27], [0, 1, 2, 3, 4, 5, 6, 7, 8, 9, 10, 11, 12, 13, 14, 15, 16, 17, 18, 19, 20, 21, 22, 23, 24, 25, 26, 27, 28]] [] (by kernel_rfl) (by kernel_rfl) (by decide) rfl ?_; simp only [go_sem, hm])
    | (refine AWP.here 11 57 21 rfl ?_; refine AWP.regionAs [0, 1, 2, 3, 4, 5, 6, 7, 8, 9, 10, 11, 12, 15, 16, 13, 14, 17, 18, 19, 20] [[], [], [0, 1], [0, 1, 2], [], [4], [0, 1, 2, 3, 4, 5], [0, 1, 2, 3, 4, 5, 6], [], [8], [0, 1, 2, 3, 4, 5, 6, 7, 8, 9], [], [11], [11, 12], [0, 1, 2, 3, 4, 5, 6, 7, 8, 9, 10, 11, 12, 13], [], [15], [11, 12, 13, 15, 16], [0, 1, 2, 3, 4, 5, 6, 7, 8, 9, 10, 11, 12, 13, 14, 15, 16, 17], [0, 1, 2, 3, 4, 5, 6, 7, 8, 9, 10, 11, 12, 13, 14, 15, 16, 17, 18], [0, 1, 2, 3, 4, 5, 6, 7, 8, 9, 10, 11, 12, 13, 14, 15, 16, 17, 18, 19]] [] (by kernel_rfl) (by kernel_rfl) (by decide) rfl ?_; simp only [go_sem, hm])
    | (refine AWP.here 16 82 46 rfl ?_; refine AWP.regionAs [0, 1, 2, 3, 4, 5, 9, 10, 13, 16, 17, 20, 21, 24, 25, 28, 29, 32, 33, 36, 37, 40, 41, 6, 7, 8, 11, 12, 14, 15, 18, 19, 22, 23, 26, 27, 30, 31, 34, 35, 38, 39, 42, 43, 44, 45] [[], [], [0, 1], [0, 1, 2], [], [4], [4, 5], [0, 1, 2, 3, 4, 5, 6], [0, 1, 2, 3, 4, 5, 6, 7], [], [9], [0, 1, 2, 3, 4, 5, 6, 7, 8, 9, 10], [0, 1, 2, 3, 4, 5, 6, 7, 8, 9, 10, 11], [], [0, 1, 2, 3, 4, 5, 6, 7, 8, 9, 10, 11, 12, 13], [0, 1, 2, 3, 4, 5, 6, 7, 8, 9, 10, 11, 12, 13, 14], [], [16], [0, 1, 2, 3, 4, 5, 6, 7, 8, 9, 10, 11, 12, 13, 14, 15, 16, 17], [0, 1, 2, 3, 4, 5, 6, 7, 8, 9, 10, 11, 12, 13, 14, 15, 16, 17, 18], [], [20], [0, 1, 2, 3, 4, 5, 6, 7, 8, 9, 10, 11, 12, 13, 14, 15, 16, 17, 18, 19, 20, 21], [0, 1, 2, 3, 4, 5, 6, 7, 8, 9, 10, 11, 12, 13, 14, 15, 16, 17, 18, 19, 20, 21, 22], [], [24], [0, 1, 2, 3, 4, 5, 6, 7, 8, 9, 10, 11, 12, 13, 14, 15, 16, 17, 18, 19, 20, 21, 22, 23, 24, 25], [0, 1, 2, 3, 4, 5, 6, 7, 8, 9, 10, 11, 12, 13, 14, 15, 16, 17, 18, 19, 20, 21, 22, 23, 24, 25, 26], [], [28], [4, 5, 6, 28, 29], [0, 1, 2, 3, 4, 5, 6, 7, 8, 9, 10, 11, 12, 13, 14, 15, 16, 17, 18, 19, 20, 21, 22, 23, 24, 25, 26, 27, 28, 29, 30], [], [32], [4, 5, 6, 28, 29, 30, 32, 33], [0, 1, 2, 3, 4, 5, 6, 7, 8, 9, 10, 11, 12, 13, 14, 15, 16, 17, 18, 19, 20, 21, 22, 23, 24, 25, 26, 27, 28, 29, 30, 31, 32, 33, 34], [], [36], [4, 5, 6, 28, 29, 30, 32, 33, 34, 36, 37], [0, 1, 2, 3, 4, 5, 6, 7, 8, 9, 10, 11, 12, 13, 14, 15, 16, 17, 18, 19, 20, 21, 22, 23, 24, 25, 26, 27, 28, 29, 30, 31, 32, 33, 34, 35, 36, 37, 38], [], [40], [4, 5, 6, 28, 29, 30, 32, 33, 34, 36, 37, 38, 40, 41], [0, 1, 2, 3, 4, 5, 6, 7, 8, 9, 10, 11, 12, 13, 14, 15, 16, 17, 18, 19, 20, 21, 22, 23, 24, 25, 26, 27, 28, 29, 30, 31, 32, 33, 34, 35, 36, 37, 38, 39, 40, 41, 42], [0, 1, 2, 3, 4, 5, 6, 7, 8, 9, 10, 11, 12, 13, 14, 15, 16, 17, 18, 19, 20, 21, 22, 23, 24, 25, 26, 27, 28, 29, 30, 31, 32, 33, 34, 35, 36, 37, 38, 39, 40, 41, 42, 43], [0, 1, 2, 3, 4, 5, 6, 7, 8, 9, 10, 11, 12, 13, 14, 15, 16, 17, 18, 19, 20, 21, 22, 23, 24, 25, 26, 27, 28, 29, 30, 31, 32, 33, 34, 35, 36, 37, 38, 39, 40, 41, 42, 43, 44]] [] (by kernel_rfl) (by kernel_rfl) (by decide) rfl ?_; simp only [go_sem, hm])
    | (refine AWP.here 26 158 27 rfl ?_; refine AWP.regionAs [0, 1, 2, 3, 4, 5, 6, 7, 8, 9, 10, 13, 14, 17, 18, 21, 22, 11, 12, 15, 16, 19, 20, 23, 24, 25, 26] [[], [0], [], [2], [0, 1, 2, 3], [0, 1, 2, 3, 4], [], [6], [0, 1, 2, 3, 4, 5, 6, 7], [], [9], [9, 10], [0, 1, 2, 3, 4, 5, 6, 7, 8, 9, 10, 11], [], [13], [9, 10, 11, 13, 14], [0, 1, 2, 3, 4, 5, 6, 7, 8, 9, 10, 11, 12, 13, 14, 15], [], [17], [9, 10, 11, 13, 14, 15, 17, 18], [0, 1, 2, 3, 4, 5, 6, 7, 8, 9, 10, 11, 12, 13, 14, 15, 16, 17, 18, 19], [], [21], [9, 10, 11, 13, 14, 15, 17, 18, 19, 21, 22], [0, 1, 2, 3, 4, 5, 6, 7, 8, 9, 10, 11, 12, 13, 14, 15, 16, 17, 18, 19, 20, 21, 22, 23], [0, 1, 2, 3, 4, 5, 6, 7, 8, 9, 10, 11, 12, 13, 14, 15, 16, 17, 18, 19, 20, 21, 22, 23, 24], [0, 1, 2, 3, 4, 5, 6, 7, 8, 9, 10, 11, 12, 13, 14, 15, 16, 17, 18, 19, 20, 21, 22, 23, 24, 25]] [] (by kernel_rfl) (by kernel_rfl) (by decide) rfl ?_; simp only [go_sem, hm])
    | (refine hK _ ?_; clear hK K)
    | refine AWP.block ?_
    | refine AWP.cond rfl (fun c => ?_) (fun c => ?_) <;> first | exact Bool.noConfusion c | (try simp only [dD] at c)
    | refine AWP.skip ?_
    | (refine AWP.exit ?_; simp only [go_sem, hm])
    | (refine ACall.one (r20may_c ⟨7, venue, ord, id, exec, now, on, lim⟩ ha) (by kernel_rfl) rfl ?_; simp only [go_sem, hm])
    | (refine ACall.one (r23name_c 7 (by omega) (by omega)) (by kernel_rfl) rfl ?_; simp only [go_sem, hm])
    | (refine ACall.one (r23num_c _) (by kernel_rfl) rfl ?_; simp only [go_sem, hm])
    | (refine ACall.one (r23side_c _) (by kernel_rfl) rfl ?_; simp only [go_sem, hm])
    | (refine ACall.one (r23exec_c exec.kind (by omega) (by omega)) (by kernel_rfl) rfl ?_; simp only [go_sem, hm])
    | (refine ACall.one (r23on_c _) (by kernel_rfl) rfl ?_; simp only [go_sem, hm])
    | (refine AGet.haveM (by assumption) ?_; (try simp only [go_sem, hm]))
    | (refine AGet.have' (by assumption) ?_; (try simp only [go_sem, hm]))
    | ((first | refine AGet.nth ?_ (fun b hb => ?_) | refine AGet.nth1 ?_ (fun b hb => ?_) | with_reducible refine And.intro ?_ ?_); (focus (first | omega | assumption | exact List.length_pos_iff.2 (by assumption) | (simp only [List.length_append, List.length_cons, List.length_nil, List.length_map, List.length_take, List.length_drop] at *; omega) | (rw [wrap64_id (by omega) (by omega)]; omega) | (simp; done) | (simp [spare_len]; done) | (exact ⟨by omega, by omega⟩))); (try simp only [hb, go_sem, hm]))
    | (
        refine AWP.ret ?_
        refine AEnd.is ?_; simp only [go_sem, out_v, out_s, out_n, v_int, v_bool, v_str] <;> (first | (rw [sh_of hm (words7 hk)]; simp [joinW, refW, *]; done) | skip))
    | refine AWP.fin (by assumption) ?_
    | fail)

set_option maxHeartbeats 4000000 in
set_option maxRecDepth 8000 in
theorem r23show_8 (a : Ak) (ha : akOk a) (hm : mayA a = true) (hk : a.kind = 8) : ACalls E 10 [akV a] (fun r t => r = .tup [str (showA a).1, i64 (showA a).2] ∧ t = []) := by -- #sh8
  obtain ⟨kind, venue, ord, id, exec, now, on, lim⟩ := a
  dsimp only at hk
  subst hk
  have hk : (⟨8, venue, ord, id, exec, now, on, lim⟩ : Ak).kind = 8 := rfl
  have hnl := (name_len (may_kind hm)).1
  have hlv := Fld.show_len venue
  have hw := wl hm (words8 hk)
  simp only [List.forall_mem_cons, List.forall_mem_nil] at hw
  dsimp only at hnl hw
  refine ACalls.of_awp (n := 183) (rs := [.tmp 2, .tmp 3]) Tryz.func10 rfl Tryz.ntmps10 rfl ?_
  repeat' (first
    | refine AWP.seqk fun K hK => ?_
    | (refine AWP.region ?_; simp only [go_sem, hm])
    | (refine AWP.here 9 27 30 rfl ?_; refine AWP.regionAs [0, 1, 2, 3, 4, 5, 6, 7, 8, 9, 10, 11, 12, 13, 14, 15, 16, 17, 20, 21, 24, 25, 18, 19, 22, 23, 26, 27, 28, 29] [[], [], [0, 1], [0, 1, 2], [], [4], [0, 1, 2, 3, 4, 5], [0, 1, 2, 3, 4, 5, 6], [], [8], [0, 1, 2, 3, 4, 5, 6, 7, 8, 9], [0, 1, 2, 3, 4, 5, 6, 7, 8, 9, 10], [], [12], [0, 1, 2, 3, 4, 5, 6, 7, 8, 9, 10, 11, 12, 13], [0, 1, 2, 3, 4, 5, 6, 7, 8, 9, 10, 11, 12, 13, 14], [], [16], [16, 17], [0, 1, 2, 3, 4, 5, 6, 7, 8, 9, 10, 11, 12, 13, 14, 15, 16, 17, 18], [], [20], [16, 17, 18, 20, 21], [0, 1, 2, 3, 4, 5, 6, 7, 8, 9, 10, 11, 12, 13, 14, 15, 16, 17, 18, 19, 20, 21, 22], [], [24], [16, 17, 18, 20, 21, 22, 24, 25], [0, 1, 2, 3, 4, 5, 6, 7, 8, 9, 10, 11, 12, 13, 14, 15, 16, 17, 18, 19, 20, 21, 22, 23, 24, 25, 26], [0, 1, 2, 3, 4, 5, 6, 7, 8, 9, 10, 11, 12, 13, 14, 15, 16, 17, 18, 19, 20, 21, 22, 23, 24, 25, 26, 27], [0, 1, 2, 3, 4, 5, 6, 7, 8, 9, 10, 11, 12, 13, 14, 15, 16, 17, 18, 19, 20, 21, 22, 23, 24, 25, 26, 27, 28]] [] (by kernel_rfl) (by kernel_rfl) (by decide) rfl ?_; simp only [go_sem, hm])
    | (refine AWP.here 11 57 21 rfl ?_; refine AWP.regionAs [0, 1, 2, 3, 4, 5, 6, 7, 8, 9, 10, 11, 12, 15, 16, 13, 14, 17, 18, 19, 20] [[], [], [0, 1], [0, 1, 2], [], [4], [0, 1, 2, 3, 4, 5], [0, 1, 2, 3, 4, 5, 6], [], [8], [0, 1, 2, 3, 4, 5, 6, 7, 8, 9], [], [11], [11, 12], [0, 1, 2, 3, 4, 5, 6, 7, 8, 9, 10, 11, 12, 13], [], [15], [11, 12, 13, 15, 16], [0, 1, 2, 3, 4, 5, 6, 7, 8, 9, 10, 11, 12, 13, 14, 15, 16, 17], [0, 1, 2, 3, 4, 5, 6, 7, 8, 9, 10, 11, 12, 13, 14, 15, 16, 17, 18], [0, 1, 2, 3, 4, 5, 6, 7, 8, 9, 10, 11, 12, 13, 14, 15, 16, 17, 18, 19]] [] (by kernel_rfl) (by kernel_rfl) (by decide) rfl ?_; simp only [go_sem, hm])
    | (refine AWP.here 16 82 46 rfl ?_; refine AWP.regionAs [0, 1, 2, 3, 4, 5, 9, 10, 13, 16, 17, 20, 21, 24, 25, 28, 29, 32, 33, 36, 37, 40, 41, 6, 7, 8, 11, 12, 14, 15, 18, 19, 22, 23, 26, 27, 30, 31, 34, 35, 38, 39, 42, 43, 44, 45] [[], [], [0, 1], [0, 1, 2], [], [4], [4, 5], [0, 1, 2, 3, 4, 5, 6], [0, 1, 2, 3, 4, 5, 6, 7], [], [9], [0, 1, 2, 3, 4, 5, 6, 7, 8, 9, 10], [0, 1, 2, 3, 4, 5, 6, 7, 8, 9, 10, 11], [], [0, 1, 2, 3, 4, 5, 6, 7, 8, 9, 10, 11, 12, 13], [0, 1, 2, 3, 4, 5, 6, 7, 8, 9, 10, 11, 12, 13, 14], [], [16], [0, 1, 2, 3, 4, 5, 6, 7, 8, 9, 10, 11, 12, 13, 14, 15, 16, 17], [0, 1, 2, 3, 4, 5, 6, 7, 8, 9, 10, 11, 12, 13, 14, 15, 16, 17, 18], [], [20], [0, 1, 2, 3, 4, 5, 6, 7, 8, 9, 10, 11, 12, 13, 14, 15, 16, 17, 18, 19, 20, 21], [0, 1, 2, 3, 4, 5, 6, 7, 8, 9, 10, 11, 12, 13, 14, 15, 16, 17, 18, 19, 20, 21, 22], [], [24], [0, 1, 2, 3, 4, 5, 6, 7, 8, 9, 10, 11, 12, 13, 14, 15, 16, 17, 18, 19, 20, 21, 22, 23, 24, 25], [0, 1, 2, 3, 4, 5, 6, 7, 8, 9, 10, 11, 12, 13, 14, 15, 16, 17, 18, 19, 20, 21, 22, 23, 24, 25, 26], [], [28], [4, 5, 6, 28, 29], [0, 1, 2, 3, 4, 5, 6, 7, 8, 9, 10, 11, 12, 13, 14, 15, 16, 17, 18, 19, 20, 21, 22, 23, 24, 25, 26, 27, 28, 29, 30], [], [32], [4, 5, 6, 28, 29, 30, 32, 33], [0, 1, 2, 3, 4, 5, 6, 7, 8, 9, 10, 11, 12, 13, 14, 15, 16, 17, 18, 19, 20, 21, 22, 23, 24, 25, 26, 27, 28, 29, 30, 31, 32, 33, 34], [], [36], [4, 5, 6, 28, 29, 30, 32, 33, 34, 36, 37], [0, 1, 2, 3, 4, 5, 6, 7, 8, 9, 10, 11, 12, 13, 14, 15, 16, 17, 18, 19, 20, 21, 22, 23, 24, 25, 26, 27, 28, 29, 30, 31, 32, 33, 34, 35, 36, 37, 38], [], [40], [4, 5, 6, 28, 29, 30, 32, 33, 34, 36, 37, 38, 40, 41], [0, 1, 2, 3, 4, 5, 6, 7, 8, 9, 10, 11, 12, 13, 14, 15, 16, 17, 18, 19, 20, 21, 22, 23, 24, 25, 26, 27, 28, 29, 30, 31, 32, 33, 34, 35, 36, 37, 38, 39, 40, 41, 42], [0, 1, 2, 3, 4, 5, 6, 7, 8, 9, 10, 11, 12, 13, 14, 15, 16, 17, 18, 19, 20, 21, 22, 23, 24, 25, 26, 27, 28, 29, 30, 31, 32, 33, 34, 35, 36, 37, 38, 39, 40, 41, 42, 43], [0, 1, 2, 3, 4, 5, 6, 7, 8, 9, 10, 11, 12, 13, 14, 15, 16, 17, 18, 19, 20, 21, 22, 23, 24, 25, 26, 27, 28, 29, 30, 31, 32, 33, 34, 35, 36, 37, 38, 39, 40, 41, 42, 43, 44]] [] (by kernel_rfl) (by kernel_rfl) (by decide) rfl ?_; simp only [go_sem, hm])
    | (refine AWP.here 26 158 27 rfl ?_; refine AWP.regionAs [0, 1, 2, 3, 4, 5, 6, 7, 8, 9, 10, 13, 14, 17, 18, 21, 22, 11, 12, 15, 16, 19, 20, 23, 24, 25, 26] [[], [0], [], [2], [0, 1, 2, 3], [0, 1, 2, 3, 4], [], [6], [0, 1, 2, 3, 4, 5, 6, 7], [], [9], [9, 10], [0, 1, 2, 3, 4, 5, 6, 7, 8, 9, 10, 11], [], [13], [9, 10, 11, 13, 14], [0, 1, 2, 3, 4, 5, 6, 7, 8, 9, 10, 11, 12, 13, 14, 15], [], [17], [9, 10, 11, 13, 14, 15, 17, 18], [0, 1, 2, 3, 4, 5, 6, 7, 8, 9, 10, 11, 12, 13, 14, 15, 16, 17, 18, 19], [], [21], [9, 10, 11, 13, 14, 15, 17, 18, 19, 21, 22], [0, 1, 2, 3, 4, 5, 6, 7, 8, 9, 10, 11, 12, 13, 14, 15, 16, 17, 18, 19, 20, 21, 22, 23], [0, 1, 2, 3, 4, 5, 6, 7, 8, 9, 10, 11, 12, 13, 14, 15, 16, 17, 18, 19, 20, 21, 22, 23, 24], [0, 1, 2, 3, 4, 5, 6, 7, 8, 9, 10, 11, 12, 13, 14, 15, 16, 17, 18, 19, 20, 21, 22, 23, 24, 25]] [] (by kernel_rfl) (by kernel_rfl) (by decide) rfl ?_; simp only [go_sem, hm])
    | (refine hK _ ?_; clear hK K)
    | refine AWP.block ?_
    | refine AWP.cond rfl (fun c => ?_) (fun c => ?_) <;> first | exact Bool.noConfusion c | (try simp only [dD] at c)
    | refine AWP.skip ?_
    | (refine AWP.exit ?_; simp only [go_sem, hm])
    | (refine ACall.one (r20may_c ⟨8, venue, ord, id, exec, now, on, lim⟩ ha) (by kernel_rfl) rfl ?_; simp only [go_sem, hm])
    | (refine ACall.one (r23name_c 8 (by omega) (by omega)) (by kernel_rfl) rfl ?_; simp only [go_sem, hm])
    | (refine ACall.one (r23num_c _) (by kernel_rfl) rfl ?_; simp only [go_sem, hm])
    | (refine ACall.one (r23side_c _) (by kernel_rfl) rfl ?_; simp only [go_sem, hm])
    | (refine ACall.one (r23exec_c exec.kind (by omega) (by omega)) (by kernel_rfl) rfl ?_; simp only [go_sem, hm])
    | (refine ACall.one (r23on_c _) (by kernel_rfl) rfl ?_; simp only [go_sem, hm])
    | (refine AGet.haveM (by assumption) ?_; (try simp only [go_sem, hm]))
    | (refine AGet.have' (by assumption) ?_; (try simp only [go_sem, hm]))
    | ((first | refine AGet.nth ?_ (fun b hb => ?_) | refine AGet.nth1 ?_ (fun b hb => ?_) | with_reducible refine And.intro ?_ ?_); (focus (first | omega | assumption | exact List.length_pos_iff.2 (by assumption) | (simp only [List.length_append, List.length_cons, List.length_nil, List.length_map, List.length_take, List.length_drop] at *; omega) | (rw [wrap64_id (by omega) (by omega)]; omega) | (simp; done) | (simp [spare_len]; done) | (exact ⟨by omega, by omega⟩))); (try simp only [hb, go_sem, hm]))
    | (
        refine AWP.ret ?_
        refine AEnd.is ?_; simp only [go_sem, out_v, out_s, out_n, v_int, v_bool, v_str] <;> (first | (rw [sh_of hm (words8 hk)]; simp [joinW, refW, *]; done) | skip))
    | refine AWP.fin (by assumption) ?_
    | fail)


end Go.Proofs.YtfchlkeekmabfaaGreatDoor
end
section
set_option linter.unusedVariables false
set_option linter.unusedSimpArgs false
namespace Go.Proofs.YtfchlkeekmabfaaGreatDoor
open Go Go.Abs Go.RowKit Go.Bk Go.Msg Go.Txt
theorem r23show_c (a : Ak) (ha : akOk a) : ACalls E 10 [akV a] (fun r t => r = .tup [str (showA a).1, i64 (showA a).2] ∧ t = []) := by
  cases hm : mayA a with
  | false => exact r23show_0 a ha hm
  | true =>
    rcases eight (may_kind hm) with h | h | h | h | h | h | h | h
    · exact r23show_1 a ha hm h
    · exact r23show_2 a ha hm h
    · exact r23show_3 a ha hm h
    · exact r23show_4 a ha hm h
    · exact r23show_5 a ha hm h
    · exact r23show_6 a ha hm h
    · exact r23show_7 a ha hm h
    · exact r23show_8 a ha hm h


end Go.Proofs.YtfchlkeekmabfaaGreatDoor
end
section
set_option linter.unusedVariables false
set_option linter.unusedSimpArgs false
namespace Go.Proofs.YtfchlkeekmabfaaGreatDoor
open Go Go.Abs Go.RowKit Go.Bk Go.Msg Go.Txt
theorem u8_of {b c : UInt8} (h : (b.toNat : Int) = (c.toNat : Int)) : b = c := UInt8.toNat_inj.1 (Int.ofNat_inj.1 h)
theorem u8_nof {b c : UInt8} (h : ¬ (b.toNat : Int) = (c.toNat : Int)) : ¬ b = c := fun e => h (by rw [e])
theorem drop_get {α : Type} {l : List α} {i : Nat} {b : α} (h : l[i]? = some b) : l.drop i = b :: l.drop (i + 1) := by
  obtain ⟨hi, he⟩ := List.getElem?_eq_some_iff.1 h
  rw [List.drop_eq_getElem_cons hi, he]
def SpI (c : UInt8) (s : List UInt8) (i j : Nat) (ws : List (List UInt8)) : Prop :=
  i ≤ s.length + 1 ∧ j ≤ s.length + 1 ∧ ws.length ≤ i ∧ (i ≤ s.length → j ≤ i ∧ splitW c s = ws ++ splitW c (s.drop j) ∧ c ∉ (s.drop j).take (i - j)) ∧ (s.length < i → ws = splitW c s)
theorem sp0 (c : UInt8) (s : List UInt8) : SpI c s 0 0 [] := ⟨by omega, by omega, by simp, fun _ => ⟨by omega, by simp, by simp⟩, fun h => by omega⟩
theorem spEnd {c : UInt8} {s : List UInt8} {i j : Nat} {ws : List (List UInt8)} (h : SpI c s i j ws) (hi : s.length < i) : ws = splitW c s := h.2.2.2.2 hi
theorem spCut {c : UInt8} {s : List UInt8} {i j : Nat} {ws : List (List UInt8)} (h : SpI c s i j ws) (hi : i ≤ s.length) (he : i = s.length ∨ s[i]? = some c) : SpI c s (i + 1) (i + 1) (ws ++ [(s.take i).drop j]) := by
  rw [List.drop_take]
  obtain ⟨h1, h2, h3, h4, h5⟩ := h
  obtain ⟨g1, g2, g3⟩ := h4 hi
  refine ⟨by omega, by omega, by simp; omega, ?_, ?_⟩
  · intro hle
    rcases he with he | he
    · omega
    · refine ⟨by omega, ?_, by simp⟩
      have e : s.drop j = (s.drop j).take (i - j) ++ c :: s.drop (i + 1) := by
        conv => lhs; rw [← List.take_append_drop (i - j) (s.drop j)]
        rw [List.drop_drop, show j + (i - j) = i by omega]
        congr 1
        exact drop_get he
      rw [g2, List.append_assoc]
      congr 1
      conv => lhs; rw [e]
      rw [split_at g3]; rfl
  · intro hlt
    rcases he with he | he
    · have e : (s.drop j).take (i - j) = s.drop j := List.take_of_length_le (by rw [List.length_drop]; omega)
      rw [e] at g3 ⊢
      rw [g2, split_none g3]
    · have := Go.Fld.get_lt he
      omega
theorem spGo {c b : UInt8} {s : List UInt8} {i j : Nat} {ws : List (List UInt8)} (h : SpI c s i j ws) (hb : s[i]? = some b) (hne : ¬ b = c) : SpI c s (i + 1) j ws := by
  obtain ⟨h1, h2, h3, h4, h5⟩ := h
  have hl := Go.Fld.get_lt hb
  obtain ⟨g1, g2, g3⟩ := h4 (by omega)
  refine ⟨by omega, by omega, by omega, fun _ => ⟨by omega, g2, ?_⟩, fun h => by omega⟩
  rw [show i + 1 - j = (i - j) + 1 by omega, List.take_add_one, List.getElem?_drop, show j + (i - j) = i by omega, hb]
  simp only [Option.toList_some, List.mem_append, List.mem_singleton, not_or]
  exact ⟨g3, fun e => hne e.symm⟩

set_option maxHeartbeats 4000000 in
set_option maxRecDepth 8000 in
theorem r23split_c (s : List UInt8) (c0 : UInt8) (hs : s.length ≤ 1000000) : ACalls E 29 [str s, u8 c0] (fun r t => r = .sl (some 0) 1 ((splitW c0 s).map str) ∧ t = [(splitW c0 s).length]) := by -- checkroll/checkrollref23.Split
  refine ACalls.of_awp (n := 35) (rs := [.tmp 4]) Tryz.func29 rfl Tryz.ntmps29 rfl ?_
  repeat' (first
    | refine AWP.seqk fun K hK => ?_
    | (
        refine AWP.here 7 25 8 rfl ?_
        have hji := (hI.2.2.2.1 (by omega)).1
        have hwl := hI.2.2.1
        refine AWP.region ?_; simp only [go_sem])
    | (
        refine AWP.here 5 12 3 rfl ?_
        have hil : i ≤ s.length := by omega
        refine AWP.region ?_; simp only [go_sem])
    | (refine AWP.region ?_; simp only [go_sem])
    | (refine hK _ ?_; clear hK K)
    | refine AWP.block ?_
    | refine AWP.cond rfl (fun c => ?_) (fun c => ?_) <;> first | exact Bool.noConfusion c | (try simp only [dD] at c)
    | refine AWP.skip ?_
    | (refine AWP.exit ?_; simp only [go_sem])
    | (refine AGuard.splitN (fun h => ?_) (fun h => ?_) <;> simp only [h, go_sem] <;> (try simp only [dD] at h))
    | (refine AGuard.split (fun h => ?_) (fun h => ?_) <;> simp only [h, go_sem] <;> (try simp only [dD] at h))
    | (refine AGet.haveM (by assumption) ?_; (try simp only [go_sem]))
    | (refine AGet.have' (by assumption) ?_; (try simp only [go_sem]))
    | ((first | refine AGet.nth ?_ (fun b hb => ?_) | refine AGet.nth1 ?_ (fun b hb => ?_) | with_reducible refine And.intro ?_ ?_); (focus (first | omega | assumption | exact List.length_pos_iff.2 (by assumption) | (simp only [List.length_append, List.length_cons, List.length_nil, List.length_map, List.length_take, List.length_drop] at *; omega) | (rw [wrap64_id (by omega) (by omega)]; omega) | (simp; done) | (simp [spare_len]; done) | (exact ⟨by omega, by omega⟩))); (try simp only [hb, go_sem]))
    | (
        refine AWP.here 4 8 4 rfl ?_
        refine AWP.nilTok 5 1 rfl ?_
        simp only [go_sem]
        refine AWP.loopM (ι := Nat × Nat × List (List UInt8)) [8, 9, 10, 11, 12, 13, 14, 15, 16, 17, 18, 19, 20, 21, 22, 23, 24, 25, 26, 27, 28, 29, 30, 31, 32, 33] (fun ⟨i, j, ws⟩ => [(5, .sl (some 0) 1 (ws.map str)), (6, i64 j), (7, i64 i)]) (fun ⟨i, j, ws⟩ => []) (fun ⟨i, j, ws⟩ => [ws.length]) (fun ⟨i, j, ws⟩ => SpI c0 s i j ws) (fun ⟨i, j, ws⟩ => s.length + 1 - i) ((0, 0, [])) ?_ ?_ ?_
        · (try simp only [go_sem]); (repeat' (first | refine And.intro ?_ ?_ | exact .inl rfl | exact .inr rfl | exact .inr ⟨rfl, rfl⟩ | trivial | exact .inr (oblA rfl) | exact .inr ⟨rfl, oblA rfl⟩ | exact .inr bel_strs | exact .inr ⟨rfl, bel_strs⟩ | exact .inr ⟨by simp, bel_strs⟩ | (simp; done) | exact .inr ⟨rfl, by simp⟩ | exact .inr ⟨by simp, by simp⟩)); done
        · exact sp0 c0 s
        rintro ⟨i, j, ws⟩ hI
        simp only [go_sem])
    | (
        refine ⟨(i + 1, i + 1, ws ++ [(s.take i).drop j]), ?_, ?_, ?_⟩
        · (try simp only [go_sem]); (try rw [wrap64_id (by omega) (by omega)]); (repeat' (first | refine And.intro ?_ ?_ | exact .inl rfl | exact .inr rfl | exact .inr ⟨rfl, rfl⟩ | trivial | exact .inr (oblA rfl) | exact .inr ⟨rfl, oblA rfl⟩ | exact .inr bel_strs | exact .inr ⟨rfl, bel_strs⟩ | exact .inr ⟨by simp, bel_strs⟩ | (simp; done) | exact .inr ⟨rfl, by simp⟩ | exact .inr ⟨by simp, by simp⟩)); done
        · first | exact spCut hI (by omega) (.inl (by omega)) | exact spCut hI (by omega) (.inr (hb.trans (congrArg some (u8_of (by assumption))))) | exact spGo hI hb (u8_nof (by assumption))
        · (try simp only []); omega)
    | (
        refine ⟨(i + 1, j, ws), ?_, ?_, ?_⟩
        · (try simp only [go_sem]); (try rw [wrap64_id (by omega) (by omega)]); (repeat' (first | refine And.intro ?_ ?_ | exact .inl rfl | exact .inr rfl | exact .inr ⟨rfl, rfl⟩ | trivial | exact .inr (oblA rfl) | exact .inr ⟨rfl, oblA rfl⟩ | exact .inr bel_strs | exact .inr ⟨rfl, bel_strs⟩ | exact .inr ⟨by simp, bel_strs⟩ | (simp; done) | exact .inr ⟨rfl, by simp⟩ | exact .inr ⟨by simp, by simp⟩)); done
        · first | exact spCut hI (by omega) (.inl (by omega)) | exact spCut hI (by omega) (.inr (hb.trans (congrArg some (u8_of (by assumption))))) | exact spGo hI hb (u8_nof (by assumption))
        · (try simp only []); omega)
    | (
        refine AWP.ret ?_
        simp only [go_sem]; have e := spEnd hI (by omega); subst e; exact ⟨[(true, 0)], .sl (some 0) 1 _, rfl, ⟨rfl, rfl, rfl⟩, rfl, rfl⟩)
    | refine AWP.fin (by assumption) ?_
    | fail)


end Go.Proofs.YtfchlkeekmabfaaGreatDoor
end
section
set_option linter.unusedVariables false
set_option linter.unusedSimpArgs false
namespace Go.Proofs.YtfchlkeekmabfaaGreatDoor
open Go Go.Abs Go.RowKit Go.Bk Go.Msg Go.Txt
abbrev tkW (o : Option Nat) (l : List (List UInt8)) (n : Nat) (bad : Bool) : AV := .agg [.sl o 1 (l.map str), i64 n, bl bad]
theorem set_same {α : Type} {l : List α} {i : Nat} {x : α} (h : l[i]? = some x) : l.set i x = l := by
  apply List.ext_getElem?
  intro j
  rw [List.getElem?_set]
  split
  · rename_i e; subst e; split
    · exact h.symm
    · rename_i hlt; rw [List.getElem?_eq_none (by omega)]
  · rfl
theorem word_end {l : List (List UInt8)} {n : Nat} {bad : Bool} (h : l.length ≤ n) : wordS l (n, bad) = ([], n, true) := by
  unfold wordS; rw [List.getElem?_eq_none h]
theorem word_yes {l : List (List UInt8)} {n : Nat} {bad : Bool} {b : List UInt8} (hb : l[n]? = some b) : wordS l (n, bad) = (b, n + 1, bad) := by
  unfold wordS; rw [hb]
theorem nb_of {l : List (List UInt8)} {n n1 : Nat} {bad b1 x : Bool} {y : List UInt8} (e : wordS l (n, bad) = (y, n1, b1)) (h : x = (b1 || !decide ((Fld.parseF y).2 = 0))) : nbS l (n, bad) = ((Fld.parseF y).1, n1, x) := by
  unfold nbS; rw [e, h]; simp
theorem vn_lo {l : List (List UInt8)} {n n1 : Nat} {bad b1 : Bool} {y : Int} (e : nbS l (n, bad) = (y, n1, b1)) (h : y < 0) : vnS l (n, bad) = (0, n1, true) := by
  unfold vnS; rw [e]; simp [h]
theorem vn_hi {l : List (List UInt8)} {n n1 : Nat} {bad b1 : Bool} {y : Int} (e : nbS l (n, bad) = (y, n1, b1)) (h : 9 < y) : vnS l (n, bad) = (0, n1, true) := by
  unfold vnS; rw [e]; simp [h]
theorem vn_ok {l : List (List UInt8)} {n n1 : Nat} {bad b1 : Bool} {y : Int} (e : nbS l (n, bad) = (y, n1, b1)) (h : ¬ y < 0) (h2 : ¬ 9 < y) : vnS l (n, bad) = (y, n1, b1) := by
  unfold vnS; rw [e]; simp [h, h2]
theorem one_of {yw nw : List UInt8} {l : List (List UInt8)} {n n1 : Nat} {bad b1 x : Bool} {y : List UInt8} (e : wordS l (n, bad) = (y, n1, b1)) (h : x = (b1 || (!decide (y = yw) && !decide (y = nw)))) : oneS yw nw l (n, bad) = (decide (y = yw), n1, x) := by
  unfold oneS; rw [e, h]; simp

set_option maxRecDepth 100000 in
set_option maxHeartbeats 4000000 in
theorem word_call {ops : Array Oper} {l0 : List Oper} {Q : Exit → St → Prop} {tmps up : List AV} {gl : Nat → Option (List AV)} {own : List (Option (List AV))} {tk : List Nat} {id : Nat} {o : Option Nat} {l : List (List UInt8)} {n : Nat} {bad : Bool} {dst : Option Tmp} {x0 : Operand} {tys : Array TypeId} {ty : TypeId} {pos : String} {after : Array Edge}
    (hx0 : St.ev ⟨tmps, own, tk, gl, none, up⟩ x0 = .ptr id 0 0) (ho : own[id]? = some (some [tkW o l n bad])) (hl : l.length ≤ 1000) (hn : n ≤ l.length) (hfl : ∀ w ∈ l, w.length ≤ 300)
    (h : ∀ y n2 bad2, wordS l (n, bad) = (y, n2, bad2) → n2 ≤ l.length → y.length ≤ 300 → AWPL E ops l0 Q (St.put ⟨tmps, own.set id (some [tkW o l n2 bad2]), tk, gl, none, up⟩ dst (str y))) :
    AWPL E ops (⟨dst, .call ⟨.value (.func 30), #[x0], tys⟩, ty, pos, after, none⟩ :: l0) Q ⟨tmps, own, tk, gl, none, up⟩ := by
  refine AWPL.call (caps := []) (rs := [.tmp 2]) Tryz.func30 rfl Tryz.ntmps30 rfl (by kernel_rfl) rfl rfl ?_
  show AWP E _ _ ⟨([St.ev _ x0] ++ []) ++ List.replicate (34 - 1) (.v undef), own, tk, gl, none, tmps ++ up⟩
  rw [hx0]
  have hset : ∀ x, (own.set id x)[id]? = some x := fun x => List.getElem?_set_self (Go.Fld.get_lt ho)
  have hss : ∀ x y, (own.set id x).set id y = own.set id y := fun x y => List.set_set ..
  have hsame : own.set id (some [tkW o l n bad]) = own := set_same ho
  have hw : IntKind.i64.wrap ((n : Int) + 1) = ((n + 1 : Nat) : Int) := by rw [wrap64_id (by omega) (by omega)]; rfl
  have hw2 : IntKind.i64.wrap (((n + 1 : Nat) : Int) - 1) = (n : Int) := by rw [wrap64_id (by omega) (by omega)]; omega
  have hB : ∀ (tm : List AV) (ow : List (Option (List AV))) (u : AV) y n2 bad2, wordS l (n, bad) = (y, n2, bad2) → n2 ≤ l.length → y.length ≤ 300 → ow = own.set id (some [tkW o l n2 bad2]) → tm[2]? = some u → u = str y → AInPost E.P [.tmp 2] ⟨tmps, own, tk, gl, none, up⟩ (fun s z => AWPL E ops l0 Q (s.put dst z)) .ret ⟨tm, ow, tk, gl, none, tmps ++ up⟩ := by
    intro tm ow u y n2 bad2 he hle hy how h4 hu
    subst how; subst hu
    refine ⟨rfl, ?_⟩
    have : St.ev ⟨tm, own.set id (some [tkW o l n2 bad2]), tk, gl, none, tmps ++ up⟩ (.tmp 2) = str y := by simp [St.ev, List.getD_eq_getElem?_getD, h4]
    show AWPL E ops l0 Q (St.put _ dst (tupOf [St.ev _ (.tmp 2)]))
    rw [this]
    exact h y n2 bad2 he hle hy
  generalize AInPost E.P [.tmp 2] ⟨tmps, own, tk, gl, none, up⟩ (fun s z => AWPL E ops l0 Q (s.put dst z)) = Q' at hB ⊢
  generalize tmps ++ up = up' at hB ⊢
  clear h hx0
  repeat' (first
    | refine AWP.seqk fun K hK => ?_
    | (refine AWP.region ?_; simp only [go_sem, ho, hset, hss, hw, hw2])
    | (refine AWP.here 1 3 10 rfl ?_; refine AWP.regionO [0, 1, 2, 3, 4, 5, 6, 7, 8, 9] [] (by kernel_rfl) (by kernel_rfl) rfl ?_; simp only [go_sem, ho, hset, hss, hw, hw2])
    | (refine AWP.here 5 23 12 rfl ?_; refine AWP.regionO [0, 1, 2, 3, 4, 5, 6, 7, 8, 9, 10, 11] [] (by kernel_rfl) (by kernel_rfl) rfl ?_; simp only [go_sem, ho, hset, hss, hw, hw2])
    | (refine hK _ ?_; clear hK K)
    | refine AWP.block ?_
    | refine AWP.cond rfl (fun c => ?_) (fun c => ?_) <;> first | exact Bool.noConfusion c | (try simp only [dD] at c)
    | refine AWP.skip ?_
    | (refine AWP.exit ?_; simp only [go_sem, ho, hset, hss, hw, hw2])
    | (refine AGet.haveM (by assumption) ?_; (try simp only [go_sem, ho, hset, hss, hw, hw2]))
    | (refine AGet.have' (by assumption) ?_; (try simp only [go_sem, ho, hset, hss, hw, hw2]))
    | ((first | refine AGet.nth ?_ (fun b hb => ?_) | refine AGet.nth1 ?_ (fun b hb => ?_) | with_reducible refine And.intro ?_ ?_); (focus (first | omega | assumption | exact List.length_pos_iff.2 (by assumption) | (simp only [List.length_append, List.length_cons, List.length_nil, List.length_map, List.length_take, List.length_drop] at *; omega) | (rw [wrap64_id (by omega) (by omega)]; omega) | (simp; done) | (simp [spare_len]; done) | (exact ⟨by omega, by omega⟩))); (try simp only [hb, go_sem, ho, hset, hss, hw, hw2]))
    | (
        refine AWP.ret ?_
        (try simp only [inb_ret, athen_ret])
        first
        | (exact hB _ _ _ _ _ _ (word_end (by omega)) (by omega) (by simp) rfl rfl rfl)
        | (exact hB _ _ _ _ _ _ (word_yes hb) (by have := Go.Fld.get_lt hb; omega) (hfl _ (List.mem_of_getElem? hb)) rfl rfl rfl))
    | refine AWP.fin (by assumption) ?_
    | fail)

set_option maxRecDepth 100000 in
set_option maxHeartbeats 4000000 in
theorem numb_call {ops : Array Oper} {l0 : List Oper} {Q : Exit → St → Prop} {tmps up : List AV} {gl : Nat → Option (List AV)} {own : List (Option (List AV))} {tk : List Nat} {id : Nat} {o : Option Nat} {l : List (List UInt8)} {n : Nat} {bad : Bool} {dst : Option Tmp} {x0 : Operand} {tys : Array TypeId} {ty : TypeId} {pos : String} {after : Array Edge}
    (hx0 : St.ev ⟨tmps, own, tk, gl, none, up⟩ x0 = .ptr id 0 0) (ho : own[id]? = some (some [tkW o l n bad])) (hl : l.length ≤ 1000) (hn : n ≤ l.length) (hfl : ∀ w ∈ l, w.length ≤ 300)
    (h : ∀ y n2 bad2, nbS l (n, bad) = (y, n2, bad2) → n2 ≤ l.length → AWPL E ops l0 Q (St.put ⟨tmps, own.set id (some [tkW o l n2 bad2]), tk, gl, none, up⟩ dst (i64 y))) :
    AWPL E ops (⟨dst, .call ⟨.value (.func 33), #[x0], tys⟩, ty, pos, after, none⟩ :: l0) Q ⟨tmps, own, tk, gl, none, up⟩ := by
  refine AWPL.call (caps := []) (rs := [.tmp 2]) Tryz.func33 rfl Tryz.ntmps33 rfl (by kernel_rfl) rfl rfl ?_
  show AWP E _ _ ⟨([St.ev _ x0] ++ []) ++ List.replicate (23 - 1) (.v undef), own, tk, gl, none, tmps ++ up⟩
  rw [hx0]
  have hset : ∀ x, (own.set id x)[id]? = some x := fun x => List.getElem?_set_self (Go.Fld.get_lt ho)
  have hss : ∀ x y, (own.set id x).set id y = own.set id y := fun x y => List.set_set ..
  have hsame : own.set id (some [tkW o l n bad]) = own := set_same ho
  have hw : IntKind.i64.wrap ((n : Int) + 1) = ((n + 1 : Nat) : Int) := by rw [wrap64_id (by omega) (by omega)]; rfl
  have hw2 : IntKind.i64.wrap (((n + 1 : Nat) : Int) - 1) = (n : Int) := by rw [wrap64_id (by omega) (by omega)]; omega
  have hB : ∀ (tm : List AV) (ow : List (Option (List AV))) (u : AV) y n2 bad2, nbS l (n, bad) = (y, n2, bad2) → n2 ≤ l.length → ow = own.set id (some [tkW o l n2 bad2]) → tm[2]? = some u → u = i64 y → AInPost E.P [.tmp 2] ⟨tmps, own, tk, gl, none, up⟩ (fun s z => AWPL E ops l0 Q (s.put dst z)) .ret ⟨tm, ow, tk, gl, none, tmps ++ up⟩ := by
    intro tm ow u y n2 bad2 he hle how h4 hu
    subst how; subst hu
    refine ⟨rfl, ?_⟩
    have : St.ev ⟨tm, own.set id (some [tkW o l n2 bad2]), tk, gl, none, tmps ++ up⟩ (.tmp 2) = i64 y := by simp [St.ev, List.getD_eq_getElem?_getD, h4]
    show AWPL E ops l0 Q (St.put _ dst (tupOf [St.ev _ (.tmp 2)]))
    rw [this]
    exact h y n2 bad2 he hle
  generalize AInPost E.P [.tmp 2] ⟨tmps, own, tk, gl, none, up⟩ (fun s z => AWPL E ops l0 Q (s.put dst z)) = Q' at hB ⊢
  generalize tmps ++ up = up' at hB ⊢
  clear h hx0
  repeat' (first
    | refine AWP.seqk fun K hK => ?_
    | (refine word_call rfl (by first | assumption | rfl) (by assumption) (by omega) hfl ?_; intro y1 n1 b1 e1 hn1 hy1; simp only [go_sem, ho, hset, hss, hsame])
    | (refine ACall.one (r1parse_c _) (by kernel_rfl) rfl ?_; simp only [go_sem, ho, hset, hss, hsame])
    | (refine AWPL.call (rs := [.tmp 2]) Tryz.func30 rfl Tryz.ntmps30 rfl (by kernel_rfl) rfl rfl ?_; simp only [go_sem])
    | (refine AWP.here 1 6 8 rfl ?_; refine AWP.regionL ?_; refine AWPL.at 8 1 rfl ?_; simp only [go_sem, ho, hset, hss, hsame])
    | (refine AWP.region ?_; simp only [go_sem, ho, hset, hss, hsame])
    | (refine AWP.here 1 3 10 rfl ?_; refine AWP.regionO [0, 1, 2, 3, 4, 5, 6, 7, 8, 9] [] (by kernel_rfl) (by kernel_rfl) rfl ?_; simp only [go_sem])
    | (refine AWP.here 5 23 12 rfl ?_; refine AWP.regionO [0, 1, 2, 3, 4, 5, 6, 7, 8, 9, 10, 11] [] (by kernel_rfl) (by kernel_rfl) rfl ?_; simp only [go_sem])
    | (refine hK _ ?_; clear hK K)
    | refine AWP.block ?_
    | refine AWP.cond rfl (fun c => ?_) (fun c => ?_) <;> first | exact Bool.noConfusion c | (try simp only [dD] at c)
    | refine AWP.skip ?_
    | (refine AWP.exit ?_; simp only [go_sem, ho, hset, hss, hsame])
    | (refine AGuard.splitN (fun h => ?_) (fun h => ?_) <;> simp only [h, go_sem, ho, hset, hss, hsame] <;> (try simp only [dD] at h))
    | (refine AGuard.split (fun h => ?_) (fun h => ?_) <;> simp only [h, go_sem, ho, hset, hss, hsame] <;> (try simp only [dD] at h))
    | (refine AGet.haveM (by assumption) ?_; (try simp only [go_sem, ho, hset, hss, hsame]))
    | (refine AGet.have' (by assumption) ?_; (try simp only [go_sem, ho, hset, hss, hsame]))
    | ((first | refine AGet.nth ?_ (fun b hb => ?_) | refine AGet.nth1 ?_ (fun b hb => ?_) | with_reducible refine And.intro ?_ ?_); (focus (first | omega | assumption | exact List.length_pos_iff.2 (by assumption) | (simp only [List.length_append, List.length_cons, List.length_nil, List.length_map, List.length_take, List.length_drop] at *; omega) | (rw [wrap64_id (by omega) (by omega)]; omega) | (simp; done) | (simp [spare_len]; done) | (exact ⟨by omega, by omega⟩))); (try simp only [hb, go_sem, ho, hset, hss, hsame]))
    | (
        refine AWP.ret ?_
        (try simp only [inb_ret, athen_ret])
        first
        | (exact hB _ _ _ _ _ _ (nb_of e1 (by simp [*])) (by omega) rfl rfl rfl))
    | (refine AWP.ret ?_; refine AInPost.ret rfl ?_; simp only [go_sem, ho, hset, hss, hsame])
    | (refine AWP.ret ?_; simp only [inb_ret, athen_ret]; refine AInPost.ret rfl ?_; simp only [go_sem, ho, hset, hss, hsame])
    | (refine AWP.ret ?_; (try simp only [inb_ret, athen_ret]); refine AInPost.ret rfl ?_; (try simp only [go_sem, ho, hset, hss, hsame]))
    | (refine AWPL.of ?_; simp only [go_sem, ho, hset, hss, hsame])
    | refine AWP.fin (by assumption) ?_
    | fail)

set_option maxRecDepth 100000 in
set_option maxHeartbeats 4000000 in
theorem venue_call {ops : Array Oper} {l0 : List Oper} {Q : Exit → St → Prop} {tmps up : List AV} {gl : Nat → Option (List AV)} {own : List (Option (List AV))} {tk : List Nat} {id : Nat} {o : Option Nat} {l : List (List UInt8)} {n : Nat} {bad : Bool} {dst : Option Tmp} {x0 : Operand} {tys : Array TypeId} {ty : TypeId} {pos : String} {after : Array Edge}
    (hx0 : St.ev ⟨tmps, own, tk, gl, none, up⟩ x0 = .ptr id 0 0) (ho : own[id]? = some (some [tkW o l n bad])) (hl : l.length ≤ 1000) (hn : n ≤ l.length) (hfl : ∀ w ∈ l, w.length ≤ 300)
    (h : ∀ y n2 bad2, vnS l (n, bad) = (y, n2, bad2) → n2 ≤ l.length → AWPL E ops l0 Q (St.put ⟨tmps, own.set id (some [tkW o l n2 bad2]), tk, gl, none, up⟩ dst (i64 y))) :
    AWPL E ops (⟨dst, .call ⟨.value (.func 31), #[x0], tys⟩, ty, pos, after, none⟩ :: l0) Q ⟨tmps, own, tk, gl, none, up⟩ := by
  refine AWPL.call (caps := []) (rs := [.tmp 2]) Tryz.func31 rfl Tryz.ntmps31 rfl (by kernel_rfl) rfl rfl ?_
  show AWP E _ _ ⟨([St.ev _ x0] ++ []) ++ List.replicate (16 - 1) (.v undef), own, tk, gl, none, tmps ++ up⟩
  rw [hx0]
  have hset : ∀ x, (own.set id x)[id]? = some x := fun x => List.getElem?_set_self (Go.Fld.get_lt ho)
  have hss : ∀ x y, (own.set id x).set id y = own.set id y := fun x y => List.set_set ..
  have hsame : own.set id (some [tkW o l n bad]) = own := set_same ho
  have hw : IntKind.i64.wrap ((n : Int) + 1) = ((n + 1 : Nat) : Int) := by rw [wrap64_id (by omega) (by omega)]; rfl
  have hw2 : IntKind.i64.wrap (((n + 1 : Nat) : Int) - 1) = (n : Int) := by rw [wrap64_id (by omega) (by omega)]; omega
  have hB : ∀ (tm : List AV) (ow : List (Option (List AV))) (u : AV) y n2 bad2, vnS l (n, bad) = (y, n2, bad2) → n2 ≤ l.length → ow = own.set id (some [tkW o l n2 bad2]) → tm[2]? = some u → u = i64 y → AInPost E.P [.tmp 2] ⟨tmps, own, tk, gl, none, up⟩ (fun s z => AWPL E ops l0 Q (s.put dst z)) .ret ⟨tm, ow, tk, gl, none, tmps ++ up⟩ := by
    intro tm ow u y n2 bad2 he hle how h4 hu
    subst how; subst hu
    refine ⟨rfl, ?_⟩
    have : St.ev ⟨tm, own.set id (some [tkW o l n2 bad2]), tk, gl, none, tmps ++ up⟩ (.tmp 2) = i64 y := by simp [St.ev, List.getD_eq_getElem?_getD, h4]
    show AWPL E ops l0 Q (St.put _ dst (tupOf [St.ev _ (.tmp 2)]))
    rw [this]
    exact h y n2 bad2 he hle
  generalize AInPost E.P [.tmp 2] ⟨tmps, own, tk, gl, none, up⟩ (fun s z => AWPL E ops l0 Q (s.put dst z)) = Q' at hB ⊢
  generalize tmps ++ up = up' at hB ⊢
  clear h hx0
  repeat' (first
    | refine AWP.seqk fun K hK => ?_
    | (refine numb_call rfl (by first | assumption | rfl) (by assumption) (by omega) hfl ?_; intro y1 n1 b1 e1 hn1; simp only [go_sem, ho, hset, hss, hsame])
    | (refine ACall.one (word_call ) (by kernel_rfl) rfl ?_; simp only [go_sem])
    | (refine AWPL.call (rs := [.tmp 2]) Tryz.func33 rfl Tryz.ntmps33 rfl (by kernel_rfl) rfl rfl ?_; simp only [go_sem])
    | (refine AWP.here 1 4 3 rfl ?_; refine AWP.regionL ?_; refine AWPL.at 3 1 rfl ?_; simp only [go_sem, ho, hset, hss, hsame])
    | (refine AWP.region ?_; simp only [go_sem, ho, hset, hss, hsame])
    | (refine hK _ ?_; clear hK K)
    | refine AWP.block ?_
    | refine AWP.cond rfl (fun c => ?_) (fun c => ?_) <;> first | exact Bool.noConfusion c | (try simp only [dD] at c)
    | refine AWP.skip ?_
    | (refine AWP.exit ?_; simp only [go_sem, ho, hset, hss, hsame])
    | (refine AGuard.splitN (fun h => ?_) (fun h => ?_) <;> simp only [h, go_sem, ho, hset, hss, hsame] <;> (try simp only [dD] at h))
    | (refine AGuard.split (fun h => ?_) (fun h => ?_) <;> simp only [h, go_sem, ho, hset, hss, hsame] <;> (try simp only [dD] at h))
    | (refine AGet.haveM (by assumption) ?_; (try simp only [go_sem, ho, hset, hss, hsame]))
    | (refine AGet.have' (by assumption) ?_; (try simp only [go_sem, ho, hset, hss, hsame]))
    | ((first | refine AGet.nth ?_ (fun b hb => ?_) | refine AGet.nth1 ?_ (fun b hb => ?_) | with_reducible refine And.intro ?_ ?_); (focus (first | omega | assumption | exact List.length_pos_iff.2 (by assumption) | (simp only [List.length_append, List.length_cons, List.length_nil, List.length_map, List.length_take, List.length_drop] at *; omega) | (rw [wrap64_id (by omega) (by omega)]; omega) | (simp; done) | (simp [spare_len]; done) | (exact ⟨by omega, by omega⟩))); (try simp only [hb, go_sem, ho, hset, hss, hsame]))
    | (
        refine AWP.ret ?_
        (try simp only [inb_ret, athen_ret])
        first
        | (exact hB _ _ _ _ _ _ (vn_lo e1 (by omega)) (by omega) rfl rfl rfl)
        | (exact hB _ _ _ _ _ _ (vn_hi e1 (by omega)) (by omega) rfl rfl rfl)
        | (exact hB _ _ _ _ _ _ (vn_ok e1 (by omega) (by omega)) (by omega) rfl rfl rfl))
    | (refine AWP.ret ?_; refine AInPost.ret rfl ?_; simp only [go_sem, ho, hset, hss, hsame])
    | (refine AWP.ret ?_; simp only [inb_ret, athen_ret]; refine AInPost.ret rfl ?_; simp only [go_sem, ho, hset, hss, hsame])
    | (refine AWP.ret ?_; (try simp only [inb_ret, athen_ret]); refine AInPost.ret rfl ?_; (try simp only [go_sem, ho, hset, hss, hsame]))
    | (refine AWPL.of ?_; simp only [go_sem, ho, hset, hss, hsame])
    | refine AWP.fin (by assumption) ?_
    | fail)

set_option maxRecDepth 100000 in
set_option maxHeartbeats 4000000 in
theorem one_call {ops : Array Oper} {l0 : List Oper} {Q : Exit → St → Prop} {tmps up : List AV} {gl : Nat → Option (List AV)} {own : List (Option (List AV))} {tk : List Nat} {id : Nat} {o : Option Nat} {l : List (List UInt8)} {n : Nat} {bad : Bool} {yw nw : List UInt8} {dst : Option Tmp} {x0 x1 x2 : Operand} {tys : Array TypeId} {ty : TypeId} {pos : String} {after : Array Edge}
    (hx0 : St.ev ⟨tmps, own, tk, gl, none, up⟩ x0 = .ptr id 0 0) (hx1 : St.ev ⟨tmps, own, tk, gl, none, up⟩ x1 = str yw) (hx2 : St.ev ⟨tmps, own, tk, gl, none, up⟩ x2 = str nw) (ho : own[id]? = some (some [tkW o l n bad])) (hl : l.length ≤ 1000) (hn : n ≤ l.length) (hfl : ∀ w ∈ l, w.length ≤ 300)
    (h : ∀ y n2 bad2, oneS yw nw l (n, bad) = (y, n2, bad2) → n2 ≤ l.length → AWPL E ops l0 Q (St.put ⟨tmps, own.set id (some [tkW o l n2 bad2]), tk, gl, none, up⟩ dst (bl y))) :
    AWPL E ops (⟨dst, .call ⟨.value (.func 32), #[x0, x1, x2], tys⟩, ty, pos, after, none⟩ :: l0) Q ⟨tmps, own, tk, gl, none, up⟩ := by
  refine AWPL.call (caps := []) (rs := [.tmp 6]) Tryz.func32 rfl Tryz.ntmps32 rfl (by kernel_rfl) rfl rfl ?_
  show AWP E _ _ ⟨([St.ev _ x0, St.ev _ x1, St.ev _ x2] ++ []) ++ List.replicate (30 - 3) (.v undef), own, tk, gl, none, tmps ++ up⟩
  rw [hx0, hx1, hx2]
  have hset : ∀ x, (own.set id x)[id]? = some x := fun x => List.getElem?_set_self (Go.Fld.get_lt ho)
  have hss : ∀ x y, (own.set id x).set id y = own.set id y := fun x y => List.set_set ..
  have hsame : own.set id (some [tkW o l n bad]) = own := set_same ho
  have hw : IntKind.i64.wrap ((n : Int) + 1) = ((n + 1 : Nat) : Int) := by rw [wrap64_id (by omega) (by omega)]; rfl
  have hw2 : IntKind.i64.wrap (((n + 1 : Nat) : Int) - 1) = (n : Int) := by rw [wrap64_id (by omega) (by omega)]; omega
  have hB : ∀ (tm : List AV) (ow : List (Option (List AV))) (u : AV) y n2 bad2, oneS yw nw l (n, bad) = (y, n2, bad2) → n2 ≤ l.length → ow = own.set id (some [tkW o l n2 bad2]) → tm[6]? = some u → u = bl y → AInPost E.P [.tmp 6] ⟨tmps, own, tk, gl, none, up⟩ (fun s z => AWPL E ops l0 Q (s.put dst z)) .ret ⟨tm, ow, tk, gl, none, tmps ++ up⟩ := by
    intro tm ow u y n2 bad2 he hle how h4 hu
    subst how; subst hu
    refine ⟨rfl, ?_⟩
    have : St.ev ⟨tm, own.set id (some [tkW o l n2 bad2]), tk, gl, none, tmps ++ up⟩ (.tmp 6) = bl y := by simp [St.ev, List.getD_eq_getElem?_getD, h4]
    show AWPL E ops l0 Q (St.put _ dst (tupOf [St.ev _ (.tmp 6)]))
    rw [this]
    exact h y n2 bad2 he hle
  generalize AInPost E.P [.tmp 6] ⟨tmps, own, tk, gl, none, up⟩ (fun s z => AWPL E ops l0 Q (s.put dst z)) = Q' at hB ⊢
  generalize tmps ++ up = up' at hB ⊢
  clear h hx0 hx1 hx2
  repeat' (first
    | refine AWP.seqk fun K hK => ?_
    | (refine word_call rfl (by first | assumption | rfl) (by assumption) (by omega) hfl ?_; intro y1 n1 b1 e1 hn1 hy1; simp only [go_sem, ho, hset, hss, hsame])
    | (refine AWPL.call (rs := [.tmp 2]) Tryz.func30 rfl Tryz.ntmps30 rfl (by kernel_rfl) rfl rfl ?_; simp only [go_sem])
    | (refine AWP.here 1 8 3 rfl ?_; refine AWP.regionL ?_; refine AWPL.at 3 1 rfl ?_; simp only [go_sem, ho, hset, hss, hsame])
    | (refine AWP.region ?_; simp only [go_sem, ho, hset, hss, hsame])
    | (refine AWP.here 1 3 10 rfl ?_; refine AWP.regionO [0, 1, 2, 3, 4, 5, 6, 7, 8, 9] [] (by kernel_rfl) (by kernel_rfl) rfl ?_; simp only [go_sem])
    | (refine AWP.here 5 23 12 rfl ?_; refine AWP.regionO [0, 1, 2, 3, 4, 5, 6, 7, 8, 9, 10, 11] [] (by kernel_rfl) (by kernel_rfl) rfl ?_; simp only [go_sem])
    | (refine hK _ ?_; clear hK K)
    | refine AWP.block ?_
    | refine AWP.cond rfl (fun c => ?_) (fun c => ?_) <;> first | exact Bool.noConfusion c | (try simp only [dD] at c)
    | refine AWP.skip ?_
    | (refine AWP.exit ?_; simp only [go_sem, ho, hset, hss, hsame])
    | (refine AGuard.splitN (fun h => ?_) (fun h => ?_) <;> simp only [h, go_sem, ho, hset, hss, hsame] <;> (try simp only [dD] at h))
    | (refine AGuard.split (fun h => ?_) (fun h => ?_) <;> simp only [h, go_sem, ho, hset, hss, hsame] <;> (try simp only [dD] at h))
    | (refine AGet.haveM (by assumption) ?_; (try simp only [go_sem, ho, hset, hss, hsame]))
    | (refine AGet.have' (by assumption) ?_; (try simp only [go_sem, ho, hset, hss, hsame]))
    | ((first | refine AGet.nth ?_ (fun b hb => ?_) | refine AGet.nth1 ?_ (fun b hb => ?_) | with_reducible refine And.intro ?_ ?_); (focus (first | omega | assumption | exact List.length_pos_iff.2 (by assumption) | (simp only [List.length_append, List.length_cons, List.length_nil, List.length_map, List.length_take, List.length_drop] at *; omega) | (rw [wrap64_id (by omega) (by omega)]; omega) | (simp; done) | (simp [spare_len]; done) | (exact ⟨by omega, by omega⟩))); (try simp only [hb, go_sem, ho, hset, hss, hsame]))
    | (
        refine AWP.ret ?_
        (try simp only [inb_ret, athen_ret])
        first
        | (exact hB _ _ _ _ _ _ (one_of e1 (by simp [*])) (by omega) rfl rfl rfl))
    | (refine AWP.ret ?_; refine AInPost.ret rfl ?_; simp only [go_sem, ho, hset, hss, hsame])
    | (refine AWP.ret ?_; simp only [inb_ret, athen_ret]; refine AInPost.ret rfl ?_; simp only [go_sem, ho, hset, hss, hsame])
    | (refine AWP.ret ?_; (try simp only [inb_ret, athen_ret]); refine AInPost.ret rfl ?_; (try simp only [go_sem, ho, hset, hss, hsame]))
    | (refine AWPL.of ?_; simp only [go_sem, ho, hset, hss, hsame])
    | refine AWP.fin (by assumption) ?_
    | fail)


end Go.Proofs.YtfchlkeekmabfaaGreatDoor
end
section
set_option linter.unusedVariables false
set_option linter.unusedSimpArgs false
namespace Go.Proofs.YtfchlkeekmabfaaGreatDoor
open Go Go.Abs Go.RowKit Go.Bk Go.Msg Go.Txt
theorem tri {α β γ : Type} {a a2 : α} {b b2 : β} {c c2 : γ} (h : (a, b, c) = (a2, b2, c2)) : a2 = a ∧ b2 = b ∧ c2 = c := by cases h; exact ⟨rfl, rfl, rfl⟩
theorem split_short {c : UInt8} {m : Nat} : ∀ {s : List UInt8}, s.length ≤ m → ∀ w ∈ splitW c s, w.length ≤ m
  | [], h, w, hw => by simp [splitW] at hw; subst hw; simp
  | a :: s, h, w, hw => by
    have ih := split_short (c := c) (s := s) (m := m - 1) (by simp at h; omega)
    simp only [List.length_cons] at h
    rw [splitW] at hw
    split at hw
    · rcases List.mem_cons.1 hw with rfl | hw
      · simp
      · have := ih w hw; omega
    · cases hs : splitW c s with
      | nil => exact absurd hs (splitW_ne c s)
      | cons v l =>
        rw [hs] at hw ih
        rcases List.mem_cons.1 hw with rfl | hw
        · have := ih v (by simp); simp; omega
        · have := ih w (by simp [hw]); omega
def upK (t : List (List UInt8)) (w : List UInt8) (i : Nat) : Int := if Txt.placeF t w ≤ (i : Int) then Txt.placeF t w else 0
theorem upK0 {t : List (List UInt8)} {w : List UInt8} : upK t w 0 = 0 := by
  unfold upK
  split
  · rename_i h
    by_cases h0 : Txt.placeF t w = 0
    · exact h0
    · obtain ⟨j, h1, _⟩ := placeGo_hit (i := 1) (show Txt.placeGo w (t.drop 1) 1 ≠ 0 from h0)
      have : Txt.placeF t w = ((1 + j : Nat) : Int) := h1
      omega
  · rfl
theorem upK_yes {t : List (List UInt8)} {w : List UInt8} {i : Nat} (hn : ∀ k, Txt.placeF t w = k ∧ k ≠ 0 ∧ 1 ≤ k → nameW t k = w) (hp : Txt.placeF t (nameW t ((i : Int) + 1)) = (i : Int) + 1) (hi : i < 8) (h : w = nameW t ((i : Int) + 1)) : upK t w (i + 1) = (i : Int) + 1 := by
  unfold upK; rw [h, hp, if_pos (by omega)]
theorem upK_no {t : List (List UInt8)} {w : List UInt8} {i : Nat} (hn : ∀ k, Txt.placeF t w = k ∧ k ≠ 0 ∧ 1 ≤ k → nameW t k = w) (h : ¬ w = nameW t ((i : Int) + 1)) : upK t w (i + 1) = upK t w i := by
  symm
  unfold upK
  by_cases h1 : Txt.placeF t w ≤ (i : Int)
  · rw [if_pos h1, if_pos (by omega)]
  · by_cases h2 : Txt.placeF t w ≤ ((i + 1 : Nat) : Int)
    · exact absurd (hn ((i : Int) + 1) ⟨by omega, by omega, by omega⟩).symm h
    · rw [if_neg h1, if_neg h2]

theorem upK8 {w : List UInt8} {i : Nat} (hi : 8 ≤ i) : upK askN w i = Txt.placeF askN w := by
  unfold upK
  by_cases h : Txt.placeF askN w = 0
  · rw [h]; split <;> rfl
  · rw [if_pos]; have := (ask_name rfl h).2.2; omega
theorem upK8x {w : List UInt8} {i : Nat} (hi : 8 ≤ i) : upK exN w i = Txt.placeF exN w := by
  unfold upK
  by_cases h : Txt.placeF exN w = 0
  · rw [h]; split <;> rfl
  · rw [if_pos]; have := (ex_name rfl h).2.2; omega
theorem place8 {w : List UInt8} (h0 : ¬ Txt.placeF askN w = 0) (h1 : ¬ Txt.placeF askN w = 1) (h2 : ¬ Txt.placeF askN w = 2) (h3 : ¬ Txt.placeF askN w = 3) (h4 : ¬ Txt.placeF askN w = 4) (h5 : ¬ Txt.placeF askN w = 5) (h6 : ¬ Txt.placeF askN w = 6) (h7 : ¬ Txt.placeF askN w = 7) : Txt.placeF askN w = 8 := by
  have := (ask_name rfl h0).2; omega
theorem akOk_z {k v n : Int} {on : Bool} : akOk ⟨k, v, Txt.zeroO, [], zeroX, n, on, Txt.zeroL⟩ := by refine ⟨?_, ?_, ?_, ?_, ?_, ?_, ?_, ?_, ?_, ?_, ?_⟩ <;> (simp [Txt.zeroO, Txt.zeroL, zeroX])
theorem akOk_o {k v q p n : Int} {i a y : List UInt8} {b on : Bool} (h1 : i.length ≤ 300) (h2 : a.length ≤ 300) (h3 : y.length ≤ 300) : akOk ⟨k, v, ⟨i, a, y, b, q, p, 0, false⟩, [], zeroX, n, on, Txt.zeroL⟩ := by
  refine ⟨?_, ?_, ?_, ?_, ?_, ?_, ?_, ?_, ?_, ?_, ?_⟩ <;> first | (simp only; omega) | (simp [Txt.zeroO, Txt.zeroL, zeroX])
theorem akOk_c {k v q p n : Int} {i o : List UInt8} {on : Bool} (h1 : i.length ≤ 300) (h2 : o.length ≤ 300) : akOk ⟨k, v, ⟨o, [], [], false, q, p, 0, false⟩, i, zeroX, n, on, Txt.zeroL⟩ := by
  refine ⟨?_, ?_, ?_, ?_, ?_, ?_, ?_, ?_, ?_, ?_, ?_⟩ <;> first | (simp only; omega) | (simp [Txt.zeroO, Txt.zeroL, zeroX])
theorem akOk_x {k v n z q p t : Int} {i r o a y : List UInt8} {on b : Bool} (h1 : i.length ≤ 300) (h2 : r.length ≤ 300) (h3 : o.length ≤ 300) (h4 : a.length ≤ 300) (h5 : y.length ≤ 300) : akOk ⟨k, v, Txt.zeroO, [], ⟨i, r, o, a, y, z, b, q, p, t⟩, n, on, Txt.zeroL⟩ := by
  refine ⟨?_, ?_, ?_, ?_, ?_, ?_, ?_, ?_, ?_, ?_, ?_⟩ <;> first | (simp only; omega) | (simp [Txt.zeroO, Txt.zeroL, zeroX])
theorem akOk_l {k v n l1 l2 l3 l4 : Int} {a y : List UInt8} {on : Bool} (h1 : a.length ≤ 300) (h2 : y.length ≤ 300) : akOk ⟨k, v, Txt.zeroO, [], zeroX, n, on, ⟨a, y, l1, l2, l3, l4⟩⟩ := by
  refine ⟨?_, ?_, ?_, ?_, ?_, ?_, ?_, ?_, ?_, ?_, ?_⟩ <;> first | (simp only; omega) | (simp [Txt.zeroO, Txt.zeroL, zeroX])
theorem rf_dash {l : List (List UInt8)} {s s1 : Nat × Bool} {r : List UInt8} (e : wordS l s = (r, s1)) (h : r = [45]) : rfS l s = ([], s1) := by unfold rfS; rw [e]; subst h; simp [refB]
theorem rf_nil {l : List (List UInt8)} {s : Nat × Bool} {r : List UInt8} {n : Nat} {b : Bool} (e : wordS l s = (r, n, b)) (h : r = []) : rfS l s = (r, n, true) := by unfold rfS; rw [e]; subst h; simp [refB]
theorem rf_ok {l : List (List UInt8)} {s s1 : Nat × Bool} {r : List UInt8} (e : wordS l s = (r, s1)) (h : ¬ r = [45]) (h2 : ¬ r = []) : rfS l s = (r, s1) := by unfold rfS; rw [e]; simp [refB, h, h2]
theorem ask_s1 {k v q p : Int} {l : List (List UInt8)} {s0 s1 s2 s3 s4 s5 s6 s7 : Nat × Bool} {i a y : List UInt8} {b : Bool} (hk : k = 1) (e1 : vnS l s0 = (v, s1)) (e2 : wordS l s1 = (i, s2)) (e3 : wordS l s2 = (a, s3)) (e4 : wordS l s3 = (y, s4)) (e5 : oneS [98, 117, 121] [115, 101, 108, 108] l s4 = (b, s5)) (e6 : nbS l s5 = (q, s6)) (e7 : nbS l s6 = (p, s7)) :
    askS k l s0 = (⟨k, v, ⟨i, a, y, b, q, p, 0, false⟩, [], zeroX, 0, false, Txt.zeroL⟩, s7) := by subst hk; simp only [askS, e1, e2, e3, e4, e5, e6, e7, if_pos]
theorem ask_s2 {k v q p : Int} {l : List (List UInt8)} {s0 s1 s2 s3 s4 s5 : Nat × Bool} {i o : List UInt8} (hk : k = 2) (e1 : vnS l s0 = (v, s1)) (e2 : wordS l s1 = (i, s2)) (e3 : wordS l s2 = (o, s3)) (e6 : nbS l s3 = (q, s4)) (e7 : nbS l s4 = (p, s5)) :
    askS k l s0 = (⟨k, v, ⟨o, [], [], false, q, p, 0, false⟩, i, zeroX, 0, false, Txt.zeroL⟩, s5) := by subst hk; simp [askS, e1, e2, e3, e6, e7]
theorem ask_s3 {k v q p t : Int} {l : List (List UInt8)} {s0 s1 s2 s3 s4 s5 s6 s7 s8 s9 s10 s11 : Nat × Bool} {w i r o a y : List UInt8} {b : Bool} (hk : k = 3) (e1 : vnS l s0 = (v, s1)) (e2 : wordS l s1 = (w, s2)) (e3 : wordS l s2 = (i, s3)) (e4 : rfS l s3 = (r, s4)) (e5 : wordS l s4 = (o, s5)) (e6 : wordS l s5 = (a, s6)) (e7 : wordS l s6 = (y, s7)) (e8 : oneS [98, 117, 121] [115, 101, 108, 108] l s7 = (b, s8)) (e9 : nbS l s8 = (q, s9)) (e10 : nbS l s9 = (p, s10)) (e11 : nbS l s10 = (t, s11)) :
    askS k l s0 = (⟨k, v, Txt.zeroO, [], ⟨i, r, o, a, y, Txt.placeF exN w, b, q, p, t⟩, 0, false, Txt.zeroL⟩, s11) := by subst hk; simp [askS, e1, e2, e3, e4, e5, e6, e7, e8, e9, e10, e11]
theorem ask_s4 {k n : Int} {l : List (List UInt8)} {s0 s1 : Nat × Bool} (hk : k = 4) (e1 : nbS l s0 = (n, s1)) : askS k l s0 = (⟨k, 0, Txt.zeroO, [], zeroX, n, false, Txt.zeroL⟩, s1) := by subst hk; simp [askS, e1]
theorem ask_s5 {k : Int} {b : Bool} {l : List (List UInt8)} {s0 s1 : Nat × Bool} (hk : k = 5) (e1 : oneS [111, 110] [111, 102, 102] l s0 = (b, s1)) : askS k l s0 = (⟨k, 0, Txt.zeroO, [], zeroX, 0, b, Txt.zeroL⟩, s1) := by subst hk; simp [askS, e1]
theorem ask_s6 {k v : Int} {b : Bool} {l : List (List UInt8)} {s0 s1 s2 : Nat × Bool} (hk : k = 6) (e1 : vnS l s0 = (v, s1)) (e2 : oneS [111, 110] [111, 102, 102] l s1 = (b, s2)) : askS k l s0 = (⟨k, v, Txt.zeroO, [], zeroX, 0, b, Txt.zeroL⟩, s2) := by subst hk; simp [askS, e1, e2]
theorem ask_s7 {k v : Int} {l : List (List UInt8)} {s0 s1 : Nat × Bool} (hk : k = 7) (e1 : vnS l s0 = (v, s1)) : askS k l s0 = (⟨k, v, Txt.zeroO, [], zeroX, 0, false, Txt.zeroL⟩, s1) := by subst hk; simp [askS, e1]
theorem ask_s8 {k g h q v : Int} {l : List (List UInt8)} {s0 s1 s2 s3 s4 s5 s6 : Nat × Bool} {a y : List UInt8} (hk : k = 8) (e1 : wordS l s0 = (a, s1)) (e2 : wordS l s1 = (y, s2)) (e3 : nbS l s2 = (g, s3)) (e4 : nbS l s3 = (h, s4)) (e5 : nbS l s4 = (q, s5)) (e6 : nbS l s5 = (v, s6)) :
    askS k l s0 = (⟨k, 0, Txt.zeroO, [], zeroX, 0, false, ⟨a, y, g, h, q, v⟩⟩, s6) := by subst hk; simp [askS, e1, e2, e3, e4, e5, e6]
theorem rp_long {s : List UInt8} (h : 256 < s.length) : parseA s = (zeroA, 4) := by rw [← parse_same]; unfold parseR; rw [if_pos h]
theorem rp_kind {s : List UInt8} (h : ¬ 256 < s.length) (h2 : Txt.placeF askN (wd (splitW 32 s) 0) = 0) : parseA s = (zeroA, 10) := by rw [← parse_same]; unfold parseR; rw [if_neg h, if_pos h2]
theorem rp_bad {s : List UInt8} {a : Ak} {n : Nat} {b : Bool} (h : ¬ 256 < s.length) (h2 : ¬ Txt.placeF askN (wd (splitW 32 s) 0) = 0) (h3 : askS (Txt.placeF askN (wd (splitW 32 s) 0)) (splitW 32 s) (1, false) = (a, n, b)) (h4 : b = true ∨ ¬ (n : Int) = ((splitW 32 s).length : Int) ∨ mayA a = false) : parseA s = (zeroA, 3) := by
  rw [← parse_same]; unfold parseR; rw [if_neg h, if_neg h2, h3, if_pos]
  rcases h4 with h4 | h4 | h4
  · exact .inl h4
  · exact .inr (.inl (fun e => h4 (by rw [← e])))
  · exact .inr (.inr h4)
theorem rp_ok {s : List UInt8} {a : Ak} {n : Nat} {b : Bool} (h : ¬ 256 < s.length) (h2 : ¬ Txt.placeF askN (wd (splitW 32 s) 0) = 0) (h3 : askS (Txt.placeF askN (wd (splitW 32 s) 0)) (splitW 32 s) (1, false) = (a, n, b)) (h4 : b = false ∧ (n : Int) = ((splitW 32 s).length : Int) ∧ mayA a = true) : parseA s = (a, 0) := by
  rw [← parse_same]; unfold parseR; rw [if_neg h, if_neg h2, h3, if_neg]
  obtain ⟨h5, h6, h7⟩ := h4
  rintro (e | e | e)
  · rw [h5] at e; simp at e
  · exact e (by simp only; omega)
  · rw [h7] at e; simp at e

set_option maxHeartbeats 16000000 in
set_option maxRecDepth 8000 in
theorem r23parse_c (s : List UInt8) (hs : s.length ≤ 100000) : ACalls E 11 [str s] (fun r t => r = .tup [akV (parseA s).1, i64 (parseA s).2] ∧ t = []) := by -- checkroll/checkrollref23.Parse
  have hw0 := split_0 32 s
  refine ACalls.of_awp (n := 221) (rs := [.cell 2 29, .tmp 3]) Tryz.func11 rfl Tryz.ntmps11 rfl ?_
  repeat' (first
    | (
        refine AWP.cutTo hc18 ?_
        first | (refine AWP.weaken ?_ (hc18 ⟨(_, _, _), ask_s1 (by assumption) (by assumption) (by assumption) (by assumption) (by assumption) (by assumption) (by assumption) (by assumption), by omega, (akOk_o (by assumption) (by assumption) (by assumption)), by omega⟩); clear hc18; (try simp only [go_sem]); (repeat' (first | refine And.intro ?_ ?_ | exact .inl rfl | exact .inr rfl | exact .inr ⟨rfl, rfl⟩ | trivial | exact .inr (oblA rfl) | exact .inr ⟨rfl, oblA rfl⟩ | exact .inr bel_strs | exact .inr ⟨rfl, bel_strs⟩ | exact .inr ⟨by simp, bel_strs⟩ | (simp; done) | exact .inr ⟨rfl, by simp⟩ | exact .inr ⟨by simp, by simp⟩)); done) | (refine AWP.weaken ?_ (hc18 ⟨(_, _, _), ask_s2 (by assumption) (by assumption) (by assumption) (by assumption) (by assumption) (by assumption), by omega, (akOk_c (by assumption) (by assumption)), by omega⟩); clear hc18; (try simp only [go_sem]); (repeat' (first | refine And.intro ?_ ?_ | exact .inl rfl | exact .inr rfl | exact .inr ⟨rfl, rfl⟩ | trivial | exact .inr (oblA rfl) | exact .inr ⟨rfl, oblA rfl⟩ | exact .inr bel_strs | exact .inr ⟨rfl, bel_strs⟩ | exact .inr ⟨by simp, bel_strs⟩ | (simp; done) | exact .inr ⟨rfl, by simp⟩ | exact .inr ⟨by simp, by simp⟩)); done) | (refine AWP.weaken ?_ (hc18 ⟨(_, _, _), ask_s3 (by assumption) ev ek (by assumption) (rf_dash (by assumption) (by assumption)) (by assumption) (by assumption) (by assumption) (by assumption) (by assumption) (by assumption) (by assumption), by omega, (akOk_x (by assumption) (by first | assumption | decide) (by assumption) (by assumption) (by assumption)), by omega⟩); clear hc18; (try simp only [go_sem]); (repeat' (first | refine And.intro ?_ ?_ | exact .inl rfl | exact .inr rfl | exact .inr ⟨rfl, rfl⟩ | trivial | exact .inr (oblA rfl) | exact .inr ⟨rfl, oblA rfl⟩ | exact .inr bel_strs | exact .inr ⟨rfl, bel_strs⟩ | exact .inr ⟨by simp, bel_strs⟩ | (simp; done) | exact .inr ⟨rfl, by simp⟩ | exact .inr ⟨by simp, by simp⟩)); done) | (refine AWP.weaken ?_ (hc18 ⟨(_, _, _), ask_s3 (by assumption) ev ek (by assumption) (rf_nil (by assumption) (by assumption)) (by assumption) (by assumption) (by assumption) (by assumption) (by assumption) (by assumption) (by assumption), by omega, (akOk_x (by assumption) (by first | assumption | decide) (by assumption) (by assumption) (by assumption)), by omega⟩); clear hc18; (try simp only [go_sem]); (repeat' (first | refine And.intro ?_ ?_ | exact .inl rfl | exact .inr rfl | exact .inr ⟨rfl, rfl⟩ | trivial | exact .inr (oblA rfl) | exact .inr ⟨rfl, oblA rfl⟩ | exact .inr bel_strs | exact .inr ⟨rfl, bel_strs⟩ | exact .inr ⟨by simp, bel_strs⟩ | (simp; done) | exact .inr ⟨rfl, by simp⟩ | exact .inr ⟨by simp, by simp⟩)); done) | (refine AWP.weaken ?_ (hc18 ⟨(_, _, _), ask_s3 (by assumption) ev ek (by assumption) (rf_ok (by assumption) (by assumption) (by assumption)) (by assumption) (by assumption) (by assumption) (by assumption) (by assumption) (by assumption) (by assumption), by omega, (akOk_x (by assumption) (by first | assumption | decide) (by assumption) (by assumption) (by assumption)), by omega⟩); clear hc18; (try simp only [go_sem]); (repeat' (first | refine And.intro ?_ ?_ | exact .inl rfl | exact .inr rfl | exact .inr ⟨rfl, rfl⟩ | trivial | exact .inr (oblA rfl) | exact .inr ⟨rfl, oblA rfl⟩ | exact .inr bel_strs | exact .inr ⟨rfl, bel_strs⟩ | exact .inr ⟨by simp, bel_strs⟩ | (simp; done) | exact .inr ⟨rfl, by simp⟩ | exact .inr ⟨by simp, by simp⟩)); done) | (refine AWP.weaken ?_ (hc18 ⟨(_, _, _), ask_s4 (by assumption) (by assumption), by omega, akOk_z, by omega⟩); clear hc18; (try simp only [go_sem]); (repeat' (first | refine And.intro ?_ ?_ | exact .inl rfl | exact .inr rfl | exact .inr ⟨rfl, rfl⟩ | trivial | exact .inr (oblA rfl) | exact .inr ⟨rfl, oblA rfl⟩ | exact .inr bel_strs | exact .inr ⟨rfl, bel_strs⟩ | exact .inr ⟨by simp, bel_strs⟩ | (simp; done) | exact .inr ⟨rfl, by simp⟩ | exact .inr ⟨by simp, by simp⟩)); done) | (refine AWP.weaken ?_ (hc18 ⟨(_, _, _), ask_s5 (by assumption) (by assumption), by omega, akOk_z, by omega⟩); clear hc18; (try simp only [go_sem]); (repeat' (first | refine And.intro ?_ ?_ | exact .inl rfl | exact .inr rfl | exact .inr ⟨rfl, rfl⟩ | trivial | exact .inr (oblA rfl) | exact .inr ⟨rfl, oblA rfl⟩ | exact .inr bel_strs | exact .inr ⟨rfl, bel_strs⟩ | exact .inr ⟨by simp, bel_strs⟩ | (simp; done) | exact .inr ⟨rfl, by simp⟩ | exact .inr ⟨by simp, by simp⟩)); done) | (refine AWP.weaken ?_ (hc18 ⟨(_, _, _), ask_s6 (by assumption) (by assumption) (by assumption), by omega, akOk_z, by omega⟩); clear hc18; (try simp only [go_sem]); (repeat' (first | refine And.intro ?_ ?_ | exact .inl rfl | exact .inr rfl | exact .inr ⟨rfl, rfl⟩ | trivial | exact .inr (oblA rfl) | exact .inr ⟨rfl, oblA rfl⟩ | exact .inr bel_strs | exact .inr ⟨rfl, bel_strs⟩ | exact .inr ⟨by simp, bel_strs⟩ | (simp; done) | exact .inr ⟨rfl, by simp⟩ | exact .inr ⟨by simp, by simp⟩)); done) | (refine AWP.weaken ?_ (hc18 ⟨(_, _, _), ask_s7 (by assumption) (by assumption), by omega, akOk_z, by omega⟩); clear hc18; (try simp only [go_sem]); (repeat' (first | refine And.intro ?_ ?_ | exact .inl rfl | exact .inr rfl | exact .inr ⟨rfl, rfl⟩ | trivial | exact .inr (oblA rfl) | exact .inr ⟨rfl, oblA rfl⟩ | exact .inr bel_strs | exact .inr ⟨rfl, bel_strs⟩ | exact .inr ⟨by simp, bel_strs⟩ | (simp; done) | exact .inr ⟨rfl, by simp⟩ | exact .inr ⟨by simp, by simp⟩)); done) | (refine AWP.weaken ?_ (hc18 ⟨(_, _, _), ask_s8 (place8 (by assumption) (by assumption) (by assumption) (by assumption) (by assumption) (by assumption) (by assumption) (by assumption)) (by assumption) (by assumption) (by assumption) (by assumption) (by assumption) (by assumption), by omega, (akOk_l (by assumption) (by assumption)), by omega⟩); clear hc18; (try simp only [go_sem]); (repeat' (first | refine And.intro ?_ ?_ | exact .inl rfl | exact .inr rfl | exact .inr ⟨rfl, rfl⟩ | trivial | exact .inr (oblA rfl) | exact .inr ⟨rfl, oblA rfl⟩ | exact .inr bel_strs | exact .inr ⟨rfl, bel_strs⟩ | exact .inr ⟨by simp, bel_strs⟩ | (simp; done) | exact .inr ⟨rfl, by simp⟩ | exact .inr ⟨by simp, by simp⟩)); done))
    | refine AWP.seqk fun K hK => ?_
    | (
        refine AWP.here 18 57 2 rfl ?_
        first
        | (have h0 := hc18; clear h0; refine AWP.region ?_; simp only [go_sem])
        | ((fail_if_success (have h0 := hc18)); refine AWP.cutAt (ι := {p : Ak × Nat × Bool // askS (Txt.placeF askN (wd (splitW 32 s) 0)) (splitW 32 s) (1, false) = p ∧ p.2.1 ≤ (splitW 32 s).length ∧ akOk p.1 ∧ ¬ (Txt.placeF askN (wd (splitW 32 s) 0)) = 0}) [3, 8, 9, 32, 33, 34, 35, 36, 37, 38, 39, 40, 41, 42, 43, 44, 45, 46, 47, 48, 49, 50, 51, 52, 53, 54, 55, 56, 57, 58, 59, 60, 61, 62, 63, 64, 65, 66, 67, 68, 69, 70, 71, 72, 73, 74, 75, 76, 77, 78, 79, 80, 81, 82, 83, 84, 85, 86, 87, 88, 89, 90, 91, 92, 93, 94, 95, 96, 97, 98, 99, 100, 101, 102, 103, 104, 105, 106, 107, 108, 109, 110, 111, 112, 113, 114, 115, 116, 117, 118, 119, 120, 121, 122, 123, 124, 125, 126, 127, 128, 129, 130, 131, 132, 133, 134, 135, 136, 137, 138, 139, 140, 141, 142, 143, 144, 145, 146, 147, 148, 149, 150, 151, 152, 153, 154, 155, 156, 157, 158, 159, 160, 161, 162, 163, 164, 165, 166, 167, 168, 169, 170, 171, 172, 173, 174, 175, 176, 177, 178, 179, 180, 181, 182, 183, 184, 185, 186, 187, 188, 189, 190, 191, 192, 193, 194, 195, 196, 197] (fun ⟨⟨a, n9, b9⟩, ha9, hn9, hok, hk0⟩ => []) (fun ⟨⟨a, n9, b9⟩, ha9, hn9, hok, hk0⟩ => [some [.agg [i64 0, i64 0, str [], str [], str [], bl false, i64 0, i64 0, i64 0, bl false, str [], str [], str [], str [], str [], str [], i64 0, bl false, i64 0, i64 0, i64 0, i64 0, bl false, str [], str [], i64 0, i64 0, i64 0, i64 0]], some [tkW (some 0) (splitW 32 s) n9 b9], some [akV a]]) (fun ⟨⟨a, n9, b9⟩, ha9, hn9, hok, hk0⟩ => [(splitW 32 s).length]) hK (fun ii => ?_) (fun hc18 => ?_)))
    | (refine Cut.mk ?_; obtain ⟨⟨a, n9, b9⟩, ha9, hn9, hok, hk0⟩ := ii; simp only [go_sem])
    | (
        refine AWP.here 3 14 5 rfl ?_
        have hl257 : (splitW 32 s).length ≤ 257 := by have := split_le 32 s; omega
        have hfl := split_short (c := 32) (s := s) (m := 300) (by omega)
        have hpos : 0 < (splitW 32 s).length := Go.Fld.get_lt hw0
        refine AWP.region ?_; simp only [go_sem])
    | (
        refine AWP.here 5 18 3 rfl ?_
        refine AWP.regionL ?_
        refine AWPL.at 3 1 rfl ?_
        simp only [go_sem]
        refine word_call (n := 0) rfl rfl (by omega) (by omega) hfl ?_
        intro y n1 b1 e1 hn1 hy1
        rw [word_yes hw0] at e1
        obtain ⟨rfl, rfl, rfl⟩ := tri e1
        simp only [go_sem])
    | (
        refine AWP.here 11 30 2 rfl ?_
        have h88 : 8 ≤ i := by omega
        simp only [upK8 h88]
        refine AWP.region ?_
        simp only [go_sem])
    | (
        refine AWP.here 35 110 4 rfl ?_
        refine AWP.regionL ?_
        refine AWPL.at 4 1 rfl ?_
        simp only [go_sem]
        refine venue_call rfl rfl (by omega) (by omega) hfl ?_
        intro yv nv bv ev hnv
        simp only [go_sem])
    | (
        refine AWP.here 36 113 3 rfl ?_
        refine AWP.regionL ?_
        refine AWPL.at 3 1 rfl ?_
        simp only [go_sem]
        refine word_call rfl rfl (by omega) (by omega) hfl ?_
        intro yk nk bk ek hnk hyk
        simp only [go_sem])
    | (
        refine AWP.here 42 126 5 rfl ?_
        have h88 : 8 ≤ i := by omega
        simp only [upK8x h88]
        refine AWP.regionL ?_
        refine AWPL.at 5 1 rfl ?_
        simp only [go_sem]
        refine word_call rfl rfl (by omega) (by omega) hfl ?_
        intro y n1 b1 e1 hn1 hy1
        simp only [go_sem])
    | (refine ACall.of (r23split_c s 32 (by omega)) (by kernel_rfl) rfl ?_; rintro r t ⟨rfl, rfl⟩; simp only [go_sem])
    | (refine word_call rfl rfl (by omega) (by omega) hfl ?_; intro y n1 b1 e1 hn1 hy1; simp only [go_sem])
    | (refine ACall.one (r23name_c _ (by omega) (by omega)) (by kernel_rfl) rfl ?_; simp only [go_sem])
    | (refine venue_call rfl rfl (by omega) (by omega) hfl ?_; intro y n1 b1 e1 hn1; simp only [go_sem])
    | (refine one_call rfl rfl rfl rfl (by omega) (by omega) hfl ?_; intro y n1 b1 e1 hn1; simp only [go_sem])
    | (refine numb_call rfl rfl (by omega) (by omega) hfl ?_; intro y n1 b1 e1 hn1; simp only [go_sem])
    | (refine ACall.one (r23exec_c _ (by omega) (by omega)) (by kernel_rfl) rfl ?_; simp only [go_sem])
    | (refine ACall.one (r20may_c a hok) (by kernel_rfl) rfl ?_; simp only [go_sem])
    | (refine AWPL.call (rs := [.tmp 2]) Tryz.func30 rfl Tryz.ntmps30 rfl (by kernel_rfl) rfl rfl ?_; simp only [go_sem])
    | (refine AWPL.call (rs := [.tmp 2]) Tryz.func33 rfl Tryz.ntmps33 rfl (by kernel_rfl) rfl rfl ?_; simp only [go_sem])
    | (refine AWPL.call (rs := [.tmp 2]) Tryz.func31 rfl Tryz.ntmps31 rfl (by kernel_rfl) rfl rfl ?_; simp only [go_sem])
    | (refine AWPL.call (rs := [.tmp 6]) Tryz.func32 rfl Tryz.ntmps32 rfl (by kernel_rfl) rfl rfl ?_; simp only [go_sem])
    | (refine AWP.here 5 18 3 rfl ?_; refine AWP.regionL ?_; refine AWPL.at 3 1 rfl ?_; simp only [go_sem])
    | (refine AWP.here 21 61 4 rfl ?_; refine AWP.regionL ?_; refine AWPL.at 4 1 rfl ?_; simp only [go_sem])
    | (refine AWP.here 22 64 5 rfl ?_; refine AWP.regionL ?_; refine AWPL.at 5 1 rfl ?_; simp only [go_sem])
    | (refine AWP.here 23 68 5 rfl ?_; refine AWP.regionL ?_; refine AWPL.at 5 1 rfl ?_; simp only [go_sem])
    | (refine AWP.here 24 72 5 rfl ?_; refine AWP.regionL ?_; refine AWPL.at 5 1 rfl ?_; simp only [go_sem])
    | (refine AWP.here 25 76 5 rfl ?_; refine AWP.regionL ?_; refine AWPL.at 5 1 rfl ?_; simp only [go_sem])
    | (refine AWP.here 26 80 5 rfl ?_; refine AWP.regionL ?_; refine AWPL.at 5 1 rfl ?_; simp only [go_sem])
    | (refine AWP.here 27 84 5 rfl ?_; refine AWP.regionL ?_; refine AWPL.at 5 1 rfl ?_; simp only [go_sem])
    | (refine AWP.here 29 90 4 rfl ?_; refine AWP.regionL ?_; refine AWPL.at 4 1 rfl ?_; simp only [go_sem])
    | (refine AWP.here 30 93 4 rfl ?_; refine AWP.regionL ?_; refine AWPL.at 4 1 rfl ?_; simp only [go_sem])
    | (refine AWP.here 31 96 5 rfl ?_; refine AWP.regionL ?_; refine AWPL.at 5 1 rfl ?_; simp only [go_sem])
    | (refine AWP.here 32 100 5 rfl ?_; refine AWP.regionL ?_; refine AWPL.at 5 1 rfl ?_; simp only [go_sem])
    | (refine AWP.here 33 104 5 rfl ?_; refine AWP.regionL ?_; refine AWPL.at 5 1 rfl ?_; simp only [go_sem])
    | (refine AWP.here 35 110 4 rfl ?_; refine AWP.regionL ?_; refine AWPL.at 4 1 rfl ?_; simp only [go_sem])
    | (refine AWP.here 36 113 3 rfl ?_; refine AWP.regionL ?_; refine AWPL.at 3 1 rfl ?_; simp only [go_sem])
    | (refine AWP.here 42 126 5 rfl ?_; refine AWP.regionL ?_; refine AWPL.at 5 1 rfl ?_; simp only [go_sem])
    | (refine AWP.here 43 130 5 rfl ?_; refine AWP.regionL ?_; refine AWPL.at 5 1 rfl ?_; simp only [go_sem])
    | (refine AWP.here 48 147 5 rfl ?_; refine AWP.regionL ?_; refine AWPL.at 5 1 rfl ?_; simp only [go_sem])
    | (refine AWP.here 49 151 5 rfl ?_; refine AWP.regionL ?_; refine AWPL.at 5 1 rfl ?_; simp only [go_sem])
    | (refine AWP.here 50 155 5 rfl ?_; refine AWP.regionL ?_; refine AWPL.at 5 1 rfl ?_; simp only [go_sem])
    | (refine AWP.here 51 159 5 rfl ?_; refine AWP.regionL ?_; refine AWPL.at 5 1 rfl ?_; simp only [go_sem])
    | (refine AWP.here 52 163 5 rfl ?_; refine AWP.regionL ?_; refine AWPL.at 5 1 rfl ?_; simp only [go_sem])
    | (refine AWP.here 53 167 5 rfl ?_; refine AWP.regionL ?_; refine AWPL.at 5 1 rfl ?_; simp only [go_sem])
    | (refine AWP.here 54 171 5 rfl ?_; refine AWP.regionL ?_; refine AWPL.at 5 1 rfl ?_; simp only [go_sem])
    | (refine AWP.here 56 177 4 rfl ?_; refine AWP.regionL ?_; refine AWPL.at 4 1 rfl ?_; simp only [go_sem])
    | (refine AWP.here 58 182 4 rfl ?_; refine AWP.regionL ?_; refine AWPL.at 4 1 rfl ?_; simp only [go_sem])
    | (refine AWP.here 60 187 4 rfl ?_; refine AWP.regionL ?_; refine AWPL.at 4 1 rfl ?_; simp only [go_sem])
    | (refine AWP.here 61 190 4 rfl ?_; refine AWP.regionL ?_; refine AWPL.at 4 1 rfl ?_; simp only [go_sem])
    | (refine AWP.here 63 195 4 rfl ?_; refine AWP.regionL ?_; refine AWPL.at 4 1 rfl ?_; simp only [go_sem])
    | (refine AWP.here 12 32 5 rfl ?_; refine AWP.regionL ?_; refine AWPL.at 5 1 rfl ?_; simp only [go_sem])
    | (refine AWP.here 13 36 5 rfl ?_; refine AWP.regionL ?_; refine AWPL.at 5 1 rfl ?_; simp only [go_sem])
    | (refine AWP.here 14 40 5 rfl ?_; refine AWP.regionL ?_; refine AWPL.at 5 1 rfl ?_; simp only [go_sem])
    | (refine AWP.here 15 44 5 rfl ?_; refine AWP.regionL ?_; refine AWPL.at 5 1 rfl ?_; simp only [go_sem])
    | (refine AWP.here 16 48 5 rfl ?_; refine AWP.regionL ?_; refine AWPL.at 5 1 rfl ?_; simp only [go_sem])
    | (refine AWP.here 17 52 5 rfl ?_; refine AWP.regionL ?_; refine AWPL.at 5 1 rfl ?_; simp only [go_sem])
    | (refine AWP.here 1 6 8 rfl ?_; refine AWP.regionL ?_; refine AWPL.at 8 1 rfl ?_; simp only [go_sem])
    | (refine AWP.here 1 4 3 rfl ?_; refine AWP.regionL ?_; refine AWPL.at 3 1 rfl ?_; simp only [go_sem])
    | (refine AWP.here 1 8 3 rfl ?_; refine AWP.regionL ?_; refine AWPL.at 3 1 rfl ?_; simp only [go_sem])
    | (refine AWP.region ?_; simp only [go_sem])
    | (refine AWP.here 64 198 21 rfl ?_; refine AWP.regionAs [0, 1, 2, 3, 4, 5, 6, 7, 8, 9, 10, 11, 12, 13, 14, 15, 16, 17, 18, 19, 20] [[], [0], [0, 1], [0, 1, 2], [0, 1, 2, 3], [0, 1, 2, 3, 4], [0, 1, 2, 3, 4, 5], [0, 1, 2, 3, 4, 5, 6], [0, 1, 2, 3, 4, 5, 6, 7], [0, 1, 2, 3, 4], [0, 1, 2, 3, 4, 9], [0, 1, 2, 3, 4, 9, 10], [0, 1, 2, 3, 4, 9, 10, 11], [0, 1, 2, 3, 4, 9, 10, 11, 12], [0, 1, 2, 3, 4, 5, 6, 7, 8, 9, 10, 11, 12, 13], [0, 1, 2, 3, 4, 5, 6, 7, 8, 9, 10, 11, 12, 13, 14], [0, 1, 2, 3, 4, 5, 6, 7, 8, 9, 10, 11, 12, 13, 14, 15], [0, 1, 2, 3, 4, 5, 6, 7, 8, 9, 10, 11, 12, 13, 14, 15, 16], [0, 1, 2, 3, 4, 5, 6, 7, 8, 9, 10, 11, 12, 13, 14, 15, 16, 17], [0, 1, 2, 3, 4, 5, 6, 7, 8, 9, 10, 11, 12, 13, 14, 15, 16, 17, 18], [0, 1, 2, 3, 4, 5, 6, 7, 8, 9, 10, 11, 12, 13, 14, 15, 16, 17, 18, 19]] [] (by kernel_rfl) (by kernel_rfl) (by decide) rfl ?_; simp only [go_sem])
    | (refine AWP.here 1 3 10 rfl ?_; refine AWP.regionO [0, 1, 2, 3, 4, 5, 6, 7, 8, 9] [] (by kernel_rfl) (by kernel_rfl) rfl ?_; simp only [go_sem])
    | (refine AWP.here 5 23 12 rfl ?_; refine AWP.regionO [0, 1, 2, 3, 4, 5, 6, 7, 8, 9, 10, 11] [] (by kernel_rfl) (by kernel_rfl) rfl ?_; simp only [go_sem])
    | (refine hK _ ?_; clear hK K)
    | refine AWP.block ?_
    | refine AWP.cond rfl (fun c => ?_) (fun c => ?_) <;> first | exact Bool.noConfusion c | (try simp only [dD] at c)
    | refine AWP.skip ?_
    | (refine AWP.exit ?_; simp only [go_sem])
    | (refine AGuard.splitN (fun h => ?_) (fun h => ?_) <;> simp only [h, go_sem] <;> (try simp only [dD] at h))
    | (refine AGuard.split (fun h => ?_) (fun h => ?_) <;> simp only [h, go_sem] <;> (try simp only [dD] at h))
    | (refine AGet.haveM (by assumption) ?_; (try simp only [go_sem]))
    | (refine AGet.have' (by assumption) ?_; (try simp only [go_sem]))
    | ((first | refine AGet.nth ?_ (fun b hb => ?_) | refine AGet.nth1 ?_ (fun b hb => ?_) | with_reducible refine And.intro ?_ ?_); (focus (first | omega | assumption | exact List.length_pos_iff.2 (by assumption) | (simp only [List.length_append, List.length_cons, List.length_nil, List.length_map, List.length_take, List.length_drop] at *; omega) | (rw [wrap64_id (by omega) (by omega)]; omega) | (simp; done) | (simp [spare_len]; done) | (exact ⟨by omega, by omega⟩))); (try simp only [hb, go_sem]))
    | (
        refine AWP.here 7 20 2 rfl ?_
        refine AWP.loopM (ι := Nat) [20, 21, 22, 23, 24, 25, 26, 27, 28, 29] (fun (i : Nat) => [(7, i64 ((i : Int) + 1))]) (fun (i : Nat) => [some [.agg [i64 0, i64 0, str [], str [], str [], bl false, i64 0, i64 0, i64 0, bl false, str [], str [], str [], str [], str [], str [], i64 0, bl false, i64 0, i64 0, i64 0, i64 0, bl false, str [], str [], i64 0, i64 0, i64 0, i64 0]], some [tkW (some 0) (splitW 32 s) 1 false], some [.agg [i64 (upK askN (wd (splitW 32 s) 0) i), i64 0, str [], str [], str [], bl false, i64 0, i64 0, i64 0, bl false, str [], str [], str [], str [], str [], str [], i64 0, bl false, i64 0, i64 0, i64 0, i64 0, bl false, str [], str [], i64 0, i64 0, i64 0, i64 0]]]) (fun (i : Nat) => [(splitW 32 s).length]) (fun (i : Nat) => i ≤ 8) (fun (i : Nat) => 8 - i) (0) ?_ ?_ ?_
        · (try simp only [go_sem]); (try simp only [upK0]); (repeat' (first | refine And.intro ?_ ?_ | exact .inl rfl | exact .inr rfl | exact .inr ⟨rfl, rfl⟩ | trivial | exact .inr (oblA rfl) | exact .inr ⟨rfl, oblA rfl⟩ | exact .inr bel_strs | exact .inr ⟨rfl, bel_strs⟩ | exact .inr ⟨by simp, bel_strs⟩ | (simp; done) | exact .inr ⟨rfl, by simp⟩ | exact .inr ⟨by simp, by simp⟩)); done
        · omega
        rintro i h1
        simp only [go_sem])
    | (
        refine AWP.here 38 115 2 rfl ?_
        refine AWP.loopM (ι := Nat) [115, 116, 117, 118, 119, 120, 121, 122, 123, 124, 125] (fun (i : Nat) => [(9, i64 ((i : Int) + 1))]) (fun (i : Nat) => [some [.agg [i64 0, i64 0, str [], str [], str [], bl false, i64 0, i64 0, i64 0, bl false, str [], str [], str [], str [], str [], str [], i64 0, bl false, i64 0, i64 0, i64 0, i64 0, bl false, str [], str [], i64 0, i64 0, i64 0, i64 0]], some [tkW (some 0) (splitW 32 s) nk bk], some [(.agg [i64 (Txt.placeF askN (wd (splitW 32 s) 0)), i64 yv, str [], str [], str [], bl false, i64 0, i64 0, i64 0, bl false, str [], str [], str [], str [], str [], str [], i64 (upK exN yk i), bl false, i64 0, i64 0, i64 0, i64 0, bl false, str [], str [], i64 0, i64 0, i64 0, i64 0])]]) (fun (i : Nat) => [(splitW 32 s).length]) (fun (i : Nat) => i ≤ 8) (fun (i : Nat) => 8 - i) (0) ?_ ?_ ?_
        · (try simp only [go_sem]); (try simp only [upK0]); (repeat' (first | refine And.intro ?_ ?_ | exact .inl rfl | exact .inr rfl | exact .inr ⟨rfl, rfl⟩ | trivial | exact .inr (oblA rfl) | exact .inr ⟨rfl, oblA rfl⟩ | exact .inr bel_strs | exact .inr ⟨rfl, bel_strs⟩ | exact .inr ⟨by simp, bel_strs⟩ | (simp; done) | exact .inr ⟨rfl, by simp⟩ | exact .inr ⟨by simp, by simp⟩)); done
        · omega
        rintro i h1
        simp only [go_sem])
    | (
        (refine ⟨i + 1, ?_, by omega, by omega⟩; (try simp only [go_sem]); first | rw [upK_yes (fun k h => (ask_name h.1 h.2.1).1) (ask_place (by omega)) (by omega) (by assumption)] | rw [upK_no (fun k h => (ask_name h.1 h.2.1).1) (by assumption)]); (try rw [wrap64_id (x := (i : Int) + 1 + 1) (by omega) (by omega)]); (repeat' (first | refine And.intro ?_ ?_ | exact .inl rfl | exact .inr rfl | exact .inr ⟨rfl, rfl⟩ | trivial | exact .inr (oblA rfl) | exact .inr ⟨rfl, oblA rfl⟩ | exact .inr bel_strs | exact .inr ⟨rfl, bel_strs⟩ | exact .inr ⟨by simp, bel_strs⟩ | (simp; done) | exact .inr ⟨rfl, by simp⟩ | exact .inr ⟨by simp, by simp⟩)); done)
    | (
        (refine ⟨i + 1, ?_, by omega, by omega⟩; (try simp only [go_sem]); first | rw [upK_yes (fun k h => (ex_name h.1 h.2.1).1) (ex_place (by omega)) (by omega) (by assumption)] | rw [upK_no (fun k h => (ex_name h.1 h.2.1).1) (by assumption)]); (try rw [wrap64_id (x := (i : Int) + 1 + 1) (by omega) (by omega)]); (repeat' (first | refine And.intro ?_ ?_ | exact .inl rfl | exact .inr rfl | exact .inr ⟨rfl, rfl⟩ | trivial | exact .inr (oblA rfl) | exact .inr ⟨rfl, oblA rfl⟩ | exact .inr bel_strs | exact .inr ⟨rfl, bel_strs⟩ | exact .inr ⟨by simp, bel_strs⟩ | (simp; done) | exact .inr ⟨rfl, by simp⟩ | exact .inr ⟨by simp, by simp⟩)); done)
    | (
        refine AWP.ret ?_
        refine AEnd.is ?_; simp only [go_sem, out_v, out_s, out_n, v_int, v_bool, v_str] <;> (first | (rw [rp_long (by omega)]; simp [zeroA, zeroX, Txt.zeroO, Txt.zeroL]; done) | (rw [rp_kind (by omega) (by assumption)]; simp [zeroA, zeroX, Txt.zeroO, Txt.zeroL]; done) | (rw [rp_bad (by omega) hk0 ha9 (.inl (by assumption))]; simp [zeroA, zeroX, Txt.zeroO, Txt.zeroL]; done) | (rw [rp_bad (by omega) hk0 ha9 (.inr (.inr (by assumption)))]; simp [zeroA, zeroX, Txt.zeroO, Txt.zeroL]; done) | (rw [rp_bad (by omega) hk0 ha9 (.inr (.inl (by assumption)))]; simp [zeroA, zeroX, Txt.zeroO, Txt.zeroL]; done) | (rw [rp_ok (by omega) hk0 ha9 ⟨by assumption, by assumption, by assumption⟩]; simp; done) | skip))
    | (refine AWP.ret ?_; refine AInPost.ret rfl ?_; simp only [go_sem])
    | (refine AWP.ret ?_; simp only [inb_ret, athen_ret]; refine AInPost.ret rfl ?_; simp only [go_sem])
    | (refine AWP.ret ?_; (try simp only [inb_ret, athen_ret]); refine AInPost.ret rfl ?_; (try simp only [go_sem]))
    | (refine AWPL.of ?_; simp only [go_sem])
    | refine AWP.fin (by assumption) ?_
    | fail)


end Go.Proofs.YtfchlkeekmabfaaGreatDoor
end
section
set_option linter.unusedVariables false
set_option linter.unusedSimpArgs false
namespace Go.Proofs.YtfchlkeekmabfaaGreatDoor
open Go Go.Abs Go.RowKit Go.Bk Go.Msg Go.Txt
theorem hd35 {w : List UInt8} {b : UInt8} (hb : w[0]? = some b) (h : (b.toNat : Int) = 35) : w.head? = some 35 := by
  rw [List.head?_eq_getElem?, hb, u8_of (b := b) (c := 35) h]
theorem hdno {w : List UInt8} {b : UInt8} (hb : w[0]? = some b) (h : ¬ (b.toNat : Int) = 35) : ¬ w.head? = some 35 := by
  rw [List.head?_eq_getElem?, hb]
  intro e
  rw [Option.some.injEq] at e
  exact h (by rw [e]; rfl)
theorem lg_drop {l : List (List UInt8)} {i : Nat} {b : List UInt8} (hb : l[i]? = some b) : l.drop i = b :: l.drop (i + 1) := drop_get hb
theorem lg_skip {l : List (List UInt8)} {i : Nat} {b : List UInt8} {acc : List Ak} {X : List Ak × Int × Int} (hb : l[i]? = some b) (h : linesGo i (l.drop i) acc = X) (hi : i < 512) (h2 : b = [] ∨ b.head? = some 35) : linesGo (i + 1) (l.drop (i + 1)) acc = X := by
  rw [lg_drop hb, linesGo, if_neg (by omega), if_pos h2] at h; exact h
theorem lg_take {l : List (List UInt8)} {i : Nat} {b : List UInt8} {acc : List Ak} {X : List Ak × Int × Int} (hb : l[i]? = some b) (h : linesGo i (l.drop i) acc = X) (hi : i < 512) (h2 : ¬ b = []) (h3 : ¬ b.head? = some 35) (h4 : (parseA b).2 = 0) : linesGo (i + 1) (l.drop (i + 1)) (acc ++ [(parseA b).1]) = X := by
  rw [lg_drop hb, linesGo, if_neg (by omega), if_neg (fun e => e.elim h2 h3), if_neg (fun e => e h4)] at h; exact h
theorem lg_long {l : List (List UInt8)} {i : Nat} {b : List UInt8} {acc : List Ak} {X : List Ak × Int × Int} (hb : l[i]? = some b) (h : linesGo i (l.drop i) acc = X) (hi : 512 ≤ i) : X = ([], 4, ((i + 1 : Nat) : Int)) := by
  rw [lg_drop hb, linesGo, if_pos (by omega)] at h; exact h.symm
theorem lg_err {l : List (List UInt8)} {i : Nat} {b : List UInt8} {acc : List Ak} {X : List Ak × Int × Int} (hb : l[i]? = some b) (h : linesGo i (l.drop i) acc = X) (hi : i < 512) (h2 : ¬ b = []) (h3 : ¬ b.head? = some 35) (h4 : ¬ (parseA b).2 = 0) : X = ([], (parseA b).2, ((i + 1 : Nat) : Int)) := by
  rw [lg_drop hb, linesGo, if_neg (by omega), if_neg (fun e => e.elim h2 h3), if_pos h4] at h; exact h.symm
theorem lg_end {l : List (List UInt8)} {i : Nat} {acc : List Ak} {X : List Ak × Int × Int} (h : linesGo i (l.drop i) acc = X) (hi : l.length ≤ i) : X = (acc, 0, 0) := by
  rw [List.drop_eq_nil_of_le hi, linesGo] at h; exact h.symm

set_option maxHeartbeats 4000000 in
set_option maxRecDepth 8000 in
theorem r23lines_c (s : List UInt8) (hs : s.length ≤ 100000) : ACalls E 13 [str s] (fun r t => r = .tup [.sl (some 0) 29 ((linesA s).1.map akV), i64 (linesA s).2.1, i64 (linesA s).2.2] ∧ t = [(linesA s).1.length]) := by -- checkroll/checkrollref23.Lines
  refine ACalls.of_awp (n := 53) (rs := [.tmp 2, .tmp 3, .tmp 4]) Tryz.func13 rfl Tryz.ntmps13 rfl ?_
  repeat' (first
    | refine AWP.seqk fun K hK => ?_
    | (
        refine AWP.here 3 7 1 rfl ?_
        have hsl := split_le 10 s
        have hsh := split_short (c := 10) (s := s) (m := 100000) (by omega)
        have hg0 : linesGo 0 (splitW 10 s) [] = linesA s := rfl
        refine AWP.region ?_; simp only [go_sem])
    | (
        refine AWP.here 6 18 2 rfl ?_
        obtain ⟨w, hw⟩ : ∃ w, (splitW 10 s)[i]? = some w := ⟨_, List.getElem?_eq_getElem (by omega)⟩
        refine AWP.region ?_; simp only [go_sem])
    | (refine AWP.region ?_; simp only [go_sem])
    | (refine hK _ ?_; clear hK K)
    | refine AWP.block ?_
    | refine AWP.cond rfl (fun c => ?_) (fun c => ?_) <;> first | exact Bool.noConfusion c | (try simp only [dD] at c)
    | refine AWP.skip ?_
    | (refine AWP.exit ?_; simp only [go_sem])
    | (refine ACall.of (r23split_c s 10 (by omega)) (by kernel_rfl) rfl ?_; rintro r t ⟨rfl, rfl⟩; simp only [go_sem])
    | (refine ACall.one (r23parse_c w (hsh _ (List.mem_of_getElem? hw))) (by kernel_rfl) rfl ?_; simp only [go_sem])
    | (refine AGuard.splitN (fun h => ?_) (fun h => ?_) <;> simp only [h, go_sem] <;> (try simp only [dD] at h))
    | (refine AGuard.split (fun h => ?_) (fun h => ?_) <;> simp only [h, go_sem] <;> (try simp only [dD] at h))
    | (refine AGet.haveM (by assumption) ?_; (try simp only [go_sem]))
    | (refine AGet.have' (by assumption) ?_; (try simp only [go_sem]))
    | ((first | refine AGet.nth ?_ (fun b hb => ?_) | refine AGet.nth1 ?_ (fun b hb => ?_) | with_reducible refine And.intro ?_ ?_); (focus (first | omega | assumption | exact List.length_pos_iff.2 (by assumption) | (simp only [List.length_append, List.length_cons, List.length_nil, List.length_map, List.length_take, List.length_drop] at *; omega) | (rw [wrap64_id (by omega) (by omega)]; omega) | (simp; done) | (simp [spare_len]; done) | (exact ⟨by omega, by omega⟩))); (try simp only [hb, go_sem]))
    | (
        refine AWP.here 4 12 4 rfl ?_
        refine AWP.nilTok 5 29 rfl ?_
        simp only [go_sem]
        refine AWP.loopM (ι := Nat × List Ak) [2, 3, 4, 8, 9, 12, 13, 14, 15, 16, 17, 18, 19, 20, 21, 22, 23, 24, 25, 26, 27, 28, 29, 30, 31, 32, 33, 34, 35, 36, 37, 38, 39, 40, 41, 42, 43, 44, 45, 46, 47, 48, 49, 50, 51] (fun ⟨i, acc⟩ => [(7, i64 i), (5, .sl (some 1) 29 (acc.map akV))]) (fun ⟨i, acc⟩ => []) (fun ⟨i, acc⟩ => [(splitW 10 s).length, acc.length]) (fun ⟨i, acc⟩ => i ≤ (splitW 10 s).length ∧ i ≤ 512 ∧ linesGo i ((splitW 10 s).drop i) acc = linesA s ∧ acc.length ≤ i) (fun ⟨i, acc⟩ => (splitW 10 s).length - i) ((0, [])) ?_ ?_ ?_
        · (try simp only [go_sem]); (repeat' (first | refine And.intro ?_ ?_ | exact .inl rfl | exact .inr rfl | exact .inr ⟨rfl, rfl⟩ | trivial | exact .inr (oblA rfl) | exact .inr ⟨rfl, oblA rfl⟩ | exact .inr bel_strs | exact .inr ⟨rfl, bel_strs⟩ | exact .inr ⟨by simp, bel_strs⟩ | (simp; done) | exact .inr ⟨rfl, by simp⟩ | exact .inr ⟨by simp, by simp⟩)); done
        · exact ⟨by omega, by omega, by simpa using hg0, by simp⟩
        rintro ⟨i, acc⟩ ⟨h1, h2, h3, h4⟩
        simp only [go_sem])
    | (
        refine ⟨(i + 1, acc), ?_, ?_, ?_⟩
        · (try simp only [go_sem]); (try rw [wrap64_id (by omega) (by omega)]); (repeat' (first | refine And.intro ?_ ?_ | exact .inl rfl | exact .inr rfl | exact .inr ⟨rfl, rfl⟩ | trivial | exact .inr (oblA rfl) | exact .inr ⟨rfl, oblA rfl⟩ | exact .inr bel_strs | exact .inr ⟨rfl, bel_strs⟩ | exact .inr ⟨by simp, bel_strs⟩ | (simp; done) | exact .inr ⟨rfl, by simp⟩ | exact .inr ⟨by simp, by simp⟩)); done
        · (try dsimp only); first | exact ⟨by omega, by omega, lg_skip hw h3 (by omega) (by first | exact .inl (by assumption) | exact .inr (hd35 hb (by assumption))), by omega⟩ | exact ⟨by omega, by omega, lg_take hw h3 (by omega) (by assumption) (hdno hb (by assumption)) (by assumption), by simp; omega⟩
        · (try simp only []); omega)
    | (
        refine ⟨(i + 1, acc ++ [(parseA w).1]), ?_, ?_, ?_⟩
        · (try simp only [go_sem]); (try rw [wrap64_id (by omega) (by omega)]); (repeat' (first | refine And.intro ?_ ?_ | exact .inl rfl | exact .inr rfl | exact .inr ⟨rfl, rfl⟩ | trivial | exact .inr (oblA rfl) | exact .inr ⟨rfl, oblA rfl⟩ | exact .inr bel_strs | exact .inr ⟨rfl, bel_strs⟩ | exact .inr ⟨by simp, bel_strs⟩ | (simp; done) | exact .inr ⟨rfl, by simp⟩ | exact .inr ⟨by simp, by simp⟩)); done
        · (try dsimp only); first | exact ⟨by omega, by omega, lg_skip hw h3 (by omega) (by first | exact .inl (by assumption) | exact .inr (hd35 hb (by assumption))), by omega⟩ | exact ⟨by omega, by omega, lg_take hw h3 (by omega) (by assumption) (hdno hb (by assumption)) (by assumption), by simp; omega⟩
        · (try simp only []); omega)
    | (
        refine AWP.ret ?_
        simp only [go_sem]; (try rw [wrap64_id (by omega) (by omega)]); (first
        | exact ⟨[(false, 29)], .tup [.sl (some 0) 29 [], .v _, .v _], rfl, ⟨rfl, rfl, rfl, trivial⟩, by rw [lg_long hw h3 (by omega)]; rfl, by rw [lg_long hw h3 (by omega)]; rfl⟩
        | exact ⟨[(false, 29)], .tup [.sl (some 0) 29 [], .v _, .v _], rfl, ⟨rfl, rfl, rfl, trivial⟩, by rw [lg_err hw h3 (by omega) (by assumption) (hdno hb (by assumption)) (by assumption)]; rfl, by rw [lg_err hw h3 (by omega) (by assumption) (hdno hb (by assumption)) (by assumption)]; rfl⟩
        | (have e := lg_end h3 (by omega); rw [e]; exact ⟨[(true, 1)], .tup [.sl (some 0) 29 _, .v _, .v _], rfl, ⟨⟨rfl, rfl, rfl⟩, rfl, rfl, trivial⟩, rfl, rfl⟩)))
    | refine AWP.fin (by assumption) ?_
    | fail)


end Go.Proofs.YtfchlkeekmabfaaGreatDoor
end
section
set_option linter.unusedVariables false
set_option linter.unusedSimpArgs false
namespace Go.Proofs.YtfchlkeekmabfaaGreatDoor
open Go Go.Abs Go.RowKit Go.Bk Go.Msg Go.Txt
theorem lines_len (s : List UInt8) (h : s.length ≤ 100000) : (linesA s).1.length ≤ 1000000 := by
  have h1 := linesGo_len (splitW 10 s) 0 []
  have h2 := split_le 10 s
  simp only [List.length_nil] at h1
  show (linesGo 0 (splitW 10 s) []).1.length ≤ _
  omega

set_option maxHeartbeats 4000000 in
set_option maxRecDepth 8000 in
theorem textRight_c (a : Ak) (l k : List UInt8) (ha : akOk a) : ACalls E 4 [akV a, str l, str k] (fun r t => r = bl true ∧ t = []) := by -- checkroll/checkrolllaw23.TextRight
  refine ACalls.of_awp (n := 101) (rs := [.tmp 6]) Tryz.func4 rfl Tryz.ntmps4 rfl ?_
  repeat' (first
    | refine AWP.seqk fun K hK => ?_
    | (refine AWP.region ?_; simp only [go_sem])
    | (refine AWP.here 5 26 12 rfl ?_; refine AWP.regionO [0, 1, 2, 3, 4, 5, 6, 7, 8, 9, 10, 11] [] (by kernel_rfl) (by kernel_rfl) rfl ?_; simp only [go_sem])
    | (refine hK _ ?_; clear hK K)
    | refine AWP.block ?_
    | refine AWP.cond rfl (fun c => ?_) (fun c => ?_) <;> first | exact Bool.noConfusion c | (try simp only [dD] at c)
    | refine AWP.skip ?_
    | (refine AWP.exit ?_; simp only [go_sem])
    | (refine ACall.one (awake23_c ) (by kernel_rfl) rfl ?_; simp only [go_sem])
    | (refine ACall.of (r20short_c a) (by kernel_rfl) rfl ?_; rintro r t ⟨⟨bb, rfl⟩, rfl⟩; simp only [go_sem])
    | (refine ACall.one (tshow_c a) (by kernel_rfl) rfl ?_; simp only [go_sem])
    | (refine ACall.one (r23show_c a ha) (by kernel_rfl) rfl ?_; simp only [go_sem])
    | (refine ACall.one (tparse_c _ (by first | omega | (simp; omega))) (by kernel_rfl) rfl ?_; simp only [go_sem])
    | (refine ACall.one (r23parse_c _ (by first | omega | (simp; omega))) (by kernel_rfl) rfl ?_; simp only [go_sem])
    | (refine ACall.of (tlines_c _ (by first | omega | (simp; omega))) (by kernel_rfl) rfl ?_; rintro r t ⟨rfl, rfl⟩; simp only [go_sem])
    | (refine ACall.of (r23lines_c _ (by first | omega | (simp; omega))) (by kernel_rfl) rfl ?_; rintro r t ⟨rfl, rfl⟩; simp only [go_sem])
    | (refine ACall.one (r23same_c _ _ (lines_len _ (by first | omega | (simp; omega)))) (by kernel_rfl) rfl ?_; simp only [go_sem])
    | (refine AGuard.splitN (fun h => ?_) (fun h => ?_) <;> simp only [h, go_sem] <;> (try simp only [dD] at h))
    | (refine AGuard.split (fun h => ?_) (fun h => ?_) <;> simp only [h, go_sem] <;> (try simp only [dD] at h))
    | (refine AGet.haveM (by assumption) ?_; (try simp only [go_sem]))
    | (refine AGet.have' (by assumption) ?_; (try simp only [go_sem]))
    | ((first | refine AGet.nth ?_ (fun b hb => ?_) | refine AGet.nth1 ?_ (fun b hb => ?_) | with_reducible refine And.intro ?_ ?_); (focus (first | omega | assumption | exact List.length_pos_iff.2 (by assumption) | (simp only [List.length_append, List.length_cons, List.length_nil, List.length_map, List.length_take, List.length_drop] at *; omega) | (rw [wrap64_id (by omega) (by omega)]; omega) | (simp; done) | (simp [spare_len]; done) | (exact ⟨by omega, by omega⟩))); (try simp only [hb, go_sem]))
    | (
        refine AWP.ret ?_
        refine AEnd.is ?_; simp only [go_sem, out_v, out_s, out_n, v_int, v_bool, v_str] <;> (first | rfl | (simp_all; done) | skip))
    | refine AWP.fin (by assumption) ?_
    | fail)


end Go.Proofs.YtfchlkeekmabfaaGreatDoor
end
