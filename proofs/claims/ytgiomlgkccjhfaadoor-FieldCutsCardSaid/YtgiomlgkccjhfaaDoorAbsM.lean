/- The words of the abstract layer as rules of the walk's simp set; small lemmas on lists. -/
import Derived.Test.YtgiomlgkccjhfaaDoorAbsL
namespace Go.Abs
open Go Go.RowKit
set_option linter.unusedVariables false
set_option linter.unusedSimpArgs false

abbrev i64 (n : Int) : AV := .v (.int .i64 n)
abbrev bl (b : Bool) : AV := .v (.bool b)
abbrev str (l : List UInt8) : AV := .v (.string ⟨l.toArray⟩)

attribute [go_sem] AWant ALight APick AUn AInt AStr ABin AConv bnd cutHi cutL loTok ALoad cellsAt AFieldAddr AIndexAddr APart AIndex AField AExtract ANil evParts ABuild afill putAll
  ALen AMinMax AIface AFn AAlloc AAllocD lookD lookN dropR ABox stEl idxFrom cleanAll AV.clean cleanL AV.clean1 ASrc ABytes cleanArgs AV.shift AV.shift1 AV.shift2
  St.ev St.put AV.ofV leafOf AV.leaves AV.plain AV.leafy Value.oneCell' AEnd APost ARes tupOf OutT OutA OutLA OutL OutV selOK selLens AThen AInBlock aggEq

@[go_sem] theorem gval_bool {b : Bool} : gval (.v (.bool b)) = some (some b) := rfl
@[go_sem] theorem gval_undef : gval (.v undef) = some none := rfl

/-- A fact that is looked for, once it is there. -/
theorem ex_some {α : Type} {a : α} {p : α → Prop} : (∃ y, some a = some y ∧ p y) ↔ p a := by simp
theorem ex_none {α : Type} {p : α → Prop} : (∃ y, (none : Option α) = some y ∧ p y) ↔ False := by simp
theorem ex_u8 {L : List UInt8} {p : List UInt8 → Prop} : (∃ l, L.map u8 = l.map u8 ∧ p l) ↔ p L := by
  constructor
  · rintro ⟨l, h, hp⟩; rw [u8_map_inj h]; exact hp
  · intro h; exact ⟨L, rfl, h⟩
theorem ex_u8_nil {p : List UInt8 → Prop} : (∃ l, ([] : List AV) = l.map u8 ∧ p l) ↔ p [] := by
  constructor
  · rintro ⟨l, h, hp⟩
    have : l = [] := by simpa using h.symm
    subst this; exact hp
  · intro h; exact ⟨[], rfl, h⟩
theorem true_imp {p : Prop} : (true = true → p) ↔ p := by simp
theorem false_imp {p : Prop} : (false = true → p) ↔ True := by simp
theorem true_imp' {p : Prop} : (true = false → p) ↔ True := by simp
theorem false_imp' {p : Prop} : (false = false → p) ↔ p := by simp
theorem getD_zero {α : Type} (x : α) (l : List α) (d : α) : (x :: l).getD 0 d = x := rfl
theorem getD_succ {α : Type} (x : α) (l : List α) (n : Nat) (d : α) : (x :: l).getD (n + 1) d = l.getD n d := rfl
theorem toArr {α : Type} (l : List α) : (⟨l⟩ : Array α).toList = l := rfl

attribute [go_sem] true_implies implies_true false_implies forall_const eq_self ex_some ex_none ex_u8 ex_u8_nil true_imp false_imp true_imp' false_imp' getD_zero getD_succ toArr
  List.set_cons_zero List.set_cons_succ List.getElem?_cons_zero List.getElem?_cons_succ List.getElem?_toArray List.toList_toArray
  Option.bind_some Option.bind_none Option.map_some Option.map_none List.map_cons List.map_nil List.nil_append List.cons_append List.append_nil
  List.length_cons List.length_nil and_true true_and and_false false_and ne_eq not_false_eq_true not_true_eq_false List.all_cons List.all_nil Bool.and_true Bool.true_and
  cond_true cond_false Bool.not_true Bool.not_false exists_const List.replicate_succ List.replicate_zero Nat.reduceSub Nat.reduceAdd if_true if_false ite_true ite_false
  List.drop_succ_cons List.drop_zero List.take_succ_cons List.take_zero Nat.add_zero Nat.zero_add decide_true decide_false
end Go.Abs
