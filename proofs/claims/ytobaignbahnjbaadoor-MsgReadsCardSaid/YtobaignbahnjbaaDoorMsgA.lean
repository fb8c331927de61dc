/- Messages: what may be said, its fields, what fields tell; the document's reading. No program. -/
import Derived.Test.YtobaignbahnjbaaDoorFldT
import Derived.Test.YtobaignbahnjbaaDoorFrmA
import Derived.Test.YtobaignbahnjbaaDoorBkA
set_option linter.unusedVariables false
set_option linter.unusedSimpArgs false
namespace Go.Msg
open Go.Fld Go.Bk
structure Mg where
  kind : Int
  seq : Int
  time : Int
  copy : Bool
  a : Int
  b : Int
  gap : Bool
  text : List UInt8
  exec : Ex
  deriving DecidableEq
def zeroX : Ex := ⟨[], [], [], [], [], 0, false, 0, 0, 0⟩
def zeroM : Mg := ⟨0, 0, 0, false, 0, 0, false, [], zeroX⟩
def saysB (s : List UInt8) : Bool := decide (s.length ≤ 64) && decide ((1 : UInt8) ∉ s)
def bareM (m : Mg) : Mg :=
  ⟨m.kind, m.seq, m.time, m.copy, if m.kind = 1 ∨ m.kind = 4 ∨ m.kind = 5 then m.a else 0, if m.kind = 4 then m.b else 0, if m.kind = 5 then m.gap else false,
   if m.kind = 2 ∨ m.kind = 3 then m.text else [], if m.kind = 7 then m.exec else zeroX⟩
def okM (m : Mg) : Bool :=
  if m.kind = 1 then smallB m.a else if m.kind = 2 then saysB m.text else if m.kind = 3 then decide (m.text ≠ []) && saysB m.text
  else if m.kind = 4 then smallB m.a && decide (m.a ≠ 0) && smallB m.b else if m.kind = 5 then smallB m.a && decide (m.a ≠ 0)
  else if m.kind = 6 then true else if m.kind = 7 then execB m.exec else false
def rightM (m : Mg) : Bool := smallB m.seq && decide (m.seq ≠ 0) && whenB m.time && okM m && decide (m = bareM m)
def letters : List UInt8 := [65, 48, 49, 50, 52, 53, 56]
def letF (k : Int) : List UInt8 := (letters.drop (k.toNat - 1)).take 1
def yesF (t : Int) (b : Bool) : List Fld.Fd := if b then [(t, [89])] else []
def someF (t : Int) (s : List UInt8) : List Fld.Fd := if s = [] then [] else [(t, s)]
def execL (x : Ex) : List Fld.Fd := (17, x.id) :: (someF 19 x.ref ++ [(11, x.ord), (1, x.acc), (55, x.sym), (54, if x.buy then [49] else [50]), (150, showF x.kind), (32, showF x.qty), (31, showF x.price), (60, showF x.time)])
def bodyL (m : Mg) : List Fld.Fd :=
  if m.kind = 1 then [(108, showF m.a)] else if m.kind = 2 ∨ m.kind = 3 then someF 112 m.text
  else if m.kind = 4 then [(7, showF m.a), (16, showF m.b)] else if m.kind = 5 then yesF 123 m.gap ++ [(36, showF m.a)]
  else if m.kind = 7 then execL m.exec else []
def packL (m : Mg) : List Fld.Fd := (35, letF m.kind) :: (34, showF m.seq) :: (52, showF m.time) :: (yesF 43 m.copy ++ bodyL m)
def putM (m : Mg) : List UInt8 × Int := if rightM m then (if (putF (packL m)).2 = 0 then ((putF (packL m)).1, 0) else ([], 1)) else ([], 1)
def tx (l : List Fld.Fd) (t : Int) : List UInt8 := (getF l t).1
def nm (l : List Fld.Fd) (t : Int) : Int := (numF l t).1
def kindF (s : List UInt8) : Int := match s with
  | [c] => Lib.indexByte letters c + 1
  | _ => 0
def findX (l : List Fld.Fd) : Ex := ⟨tx l 17, tx l 19, tx l 11, tx l 1, tx l 55, nm l 150, decide (tx l 54 = [49]), nm l 32, nm l 31, nm l 60⟩
def findM (l : List Fld.Fd) : Mg :=
  let k := kindF (tx l 35)
  ⟨k, nm l 34, nm l 52, decide (tx l 43 = [89]), if k = 1 then nm l 108 else if k = 4 then nm l 7 else if k = 5 then nm l 36 else 0, if k = 4 then nm l 16 else 0,
   if k = 5 then decide (tx l 123 = [89]) else false, if k = 2 ∨ k = 3 then tx l 112 else [], if k = 7 then findX l else zeroX⟩
def readM (b : List UInt8) : Mg × Int :=
  if (parseL b).2 ≠ 0 then (zeroM, (parseL b).2)
  else if (putM (findM (parseL b).1)).2 = 0 ∧ (putM (findM (parseL b).1)).1 = b then (findM (parseL b).1, 0) else (zeroM, 3)

/-! ### the document's -/
def textR (s : List UInt8) : Bool := decide ((1 : UInt8) ∉ s) && decide (s.length ≤ 64)
def rightR (m : Mg) : Bool :=
  if m.kind < 1 ∨ 7 < m.kind ∨ m.seq = 0 ∨ smallB m.seq = false ∨ whenB m.time = false ∨ smallB m.a = false ∨ smallB m.b = false ∨ textR m.text = false then false
  else if (m.kind = 7 ∧ execB m.exec = false) ∨ (m.kind ≠ 7 ∧ m.exec ≠ zeroX) then false
  else if (m.kind ≠ 5 ∧ m.gap = true) ∨ (m.kind ≠ 4 ∧ m.b ≠ 0) ∨ (m.kind ≠ 2 ∧ m.kind ≠ 3 ∧ m.text ≠ []) then false
  else if m.kind = 1 then true else if m.kind = 2 then decide (m.a = 0) else if m.kind = 3 then decide (m.a = 0) && decide (m.text ≠ [])
  else if m.kind = 4 ∨ m.kind = 5 then decide (0 < m.a) else decide (m.a = 0)
theorem text_says (s : List UInt8) : textR s = saysB s := by unfold textR saysB; rw [Bool.and_comm]
theorem smallB_iff {n : Int} : smallB n = true ↔ 0 ≤ n ∧ n ≤ 1099511627776 := by unfold smallB; simp
theorem whenB_iff {n : Int} : whenB n = true ↔ 0 ≤ n ∧ n ≤ 4611686018427387904 := by unfold whenB; simp
theorem small0 : smallB 0 = true := by decide
theorem says0 : saysB [] = true := by decide
theorem okM_range {m : Mg} (h : okM m = true) : m.kind = 1 ∨ m.kind = 2 ∨ m.kind = 3 ∨ m.kind = 4 ∨ m.kind = 5 ∨ m.kind = 6 ∨ m.kind = 7 := by
  unfold okM at h
  split at h; · omega
  split at h; · omega
  split at h; · omega
  split at h; · omega
  split at h; · omega
  split at h; · omega
  split at h; · omega
  simp at h
/-- The program's and the document's: the same. -/
theorem right_same (m : Mg) : rightR m = rightM m := by
  obtain ⟨kind, seq, time, copy, a, b, gap, text, exec⟩ := m
  rw [Bool.eq_iff_iff]
  unfold rightR rightM okM bareM
  simp only [text_says, Mg.mk.injEq]
  by_cases hk : kind < 1 ∨ 7 < kind
  · rw [if_pos (by rcases hk with h | h; exact .inl h; exact .inr (.inl h))]
    rw [if_neg (by omega), if_neg (by omega), if_neg (by omega), if_neg (by omega), if_neg (by omega), if_neg (by omega), if_neg (by omega)]
    simp
  · have h7 : kind = 1 ∨ kind = 2 ∨ kind = 3 ∨ kind = 4 ∨ kind = 5 ∨ kind = 6 ∨ kind = 7 := by omega
    have s0 := small0
    have t0 := says0
    cases hs : smallB seq <;> cases hw : whenB time <;> cases ha : smallB a <;> cases hb : smallB b <;> cases ht : saysB text <;> cases hx : execB exec <;>
      rcases h7 with rfl | rfl | rfl | rfl | rfl | rfl | rfl <;> simp [hs, hw, ha, hb, ht, hx] <;>
      (first | done | (intro h; try simp_all; done) | skip)
    all_goals (try (first | (intros; simp_all; done) | (intro _ _ _ e; subst e; rw [t0] at ht; simp at ht; done) | (have := @smallB_iff a; simp_all; done) | (constructor <;> (intros; simp_all <;> omega); done) | (have := (@smallB_iff a).1 ha; constructor <;> (rintro ⟨h1, h2⟩; simp_all <;> omega); done)))
end Go.Msg
