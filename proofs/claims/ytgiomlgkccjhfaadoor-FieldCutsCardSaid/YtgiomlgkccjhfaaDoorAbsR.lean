/- Loops, told by what changes. -/
import Derived.Test.YtgiomlgkccjhfaaDoorAbsQ
namespace Go.Abs
open Go Go.RowKit
set_option linter.unusedVariables false
set_option linter.unusedSimpArgs false

def havoc : List Nat → List AV → List AV
  | [], l => l
  | i :: is, l => havoc is (l.set i .any)
def putsL : List (Nat × AV) → List AV → List AV
  | [], l => l
  | p :: ps, l => putsL ps (l.set p.1 p.2)
/-- The state at a loop's head: the slots hv are unknown, the slots ps are told, the own blocks and tokens are these. -/
def St.at (st : St) (hv : List Nat) (ps : List (Nat × AV)) (own : List (Option (List AV))) (tk : List Nat) : St := { st with tmps := putsL ps (havoc hv st.tmps), own := own, tk := tk }

theorem AWP.loopH {E : Env} {Q : Exit → St → Prop} {st : St} {ι : Type} {c : Code} (hv : List Nat) (ps : ι → List (Nat × AV)) (I : ι → Prop) (μ : ι → Nat) (i : ι)
    (hw0 : st.Wk (st.at hv (ps i) st.own st.tk)) (hI : I i)
    (round : ∀ i, I i → AWP E c (AThen (fun s' => ∃ j, s'.Wk (st.at hv (ps j) st.own st.tk) ∧ I j ∧ μ j < μ i) Q) (st.at hv (ps i) st.own st.tk)) : AWP E (.loop c) Q st :=
  AWP.loopS (fun i => st.at hv (ps i) st.own st.tk) I μ i hw0 hI round
theorem AWP.loopO {E : Env} {Q : Exit → St → Prop} {st : St} {ι : Type} {c : Code} (hv : List Nat) (ps : ι → List (Nat × AV)) (own : ι → List (Option (List AV))) (tk : ι → List Nat) (I : ι → Prop) (μ : ι → Nat) (i : ι)
    (hw0 : st.Wk (st.at hv (ps i) (own i) (tk i))) (hI : I i)
    (round : ∀ i, I i → AWP E c (AThen (fun s' => ∃ j, s'.Wk (st.at hv (ps j) (own j) (tk j)) ∧ I j ∧ μ j < μ i) Q) (st.at hv (ps i) (own i) (tk i))) : AWP E (.loop c) Q st :=
  AWP.loopS (fun i => st.at hv (ps i) (own i) (tk i)) I μ i hw0 hI round

theorem wkT_nil {no nt : Nat} : WkT no nt [] [] = True := rfl
theorem wkT_cons {no nt : Nat} {x y : AV} {xs ys : List AV} : WkT no nt (x :: xs) (y :: ys) = ((y = .any ∨ (y = x ∧ x.bel no nt = true)) ∧ WkT no nt xs ys) := rfl
theorem wkO_nil {no nt : Nat} {xs : List (Option (List AV))} : WkO no nt xs [] = True := by cases xs <;> rfl
theorem wkO_cons {no nt : Nat} {x y : Option (List AV)} {xs ys : List (Option (List AV))} : WkO no nt (x :: xs) (y :: ys) = ((y = none ∨ (y = x ∧ ∀ es, x = some es → ∀ e ∈ es, ∀ z ∈ e.leaves, z.bel no nt = true)) ∧ WkO no nt xs ys) := rfl
theorem wkK_nil {xs : List Nat} : WkK xs [] = True := by cases xs <;> rfl
theorem wkK_cons {x y : Nat} {xs ys : List Nat} : WkK (x :: xs) (y :: ys) = (y = x ∧ WkK xs ys) := rfl
/-- An own block that stays as it is. -/
theorem wkB_same {no nt : Nat} {x : List AV} : (∀ es, some x = some es → ∀ e ∈ es, ∀ z ∈ e.leaves, z.bel no nt = true) = (x.all fun e => e.leaves.all fun z => z.bel no nt) := by
  simp [List.all_eq_true]
theorem wkB_none {no nt : Nat} : (∀ es, (none : Option (List AV)) = some es → ∀ e ∈ es, ∀ z ∈ e.leaves, z.bel no nt = true) = True := by simp
attribute [go_sem] St.at havoc putsL St.Wk wkT_nil wkT_cons wkO_nil wkO_cons wkK_nil wkK_cons wkB_same wkB_none true_or or_true AV.bel AV.bel1 AV.bel2 Bool.and_self

theorem bif_bool {c a b : Bool} : (bif c then AV.v (.bool a) else AV.v (.bool b)) = AV.v (.bool (bif c then a else b)) := by cases c <;> rfl
theorem bif_false {c a : Bool} : (bif c then a else false) = (c && a) := by cases c <;> rfl
theorem bif_true {c b : Bool} : (bif c then true else b) = (c || b) := by cases c <;> rfl
attribute [go_sem] bif_bool bif_false bif_true Bool.and_false Bool.false_and Bool.or_true Bool.true_or Bool.or_false Bool.false_or
theorem wrap64_id {x : Int} (h1 : -9223372036854775808 ≤ x) (h2 : x ≤ 9223372036854775807) : IntKind.i64.wrap x = x := by
  rw [IntKind.wrap_i64]; omega
end Go.Abs
