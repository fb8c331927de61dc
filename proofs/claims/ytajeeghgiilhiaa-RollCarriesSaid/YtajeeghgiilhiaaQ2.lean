import Derived.Test.YtajeeghgiilhiaaVs
import Derived.Test.YtajeeghgiilhiaaSr
import Derived.Test.YtajeeghgiilhiaaLe
import Derived.Test.YtajeeghgiilhiaaPm
set_option linter.unusedVariables false
set_option linter.unusedSimpArgs false
namespace Go.Proofs.Ytajeeghgiilhiaa
open Go Go.Abs Go.RowKit Go.Bk
abbrev exOk (x : Ex) : Prop := x.id.length ≤ 9223372036854775807 ∧ x.ref.length ≤ 9223372036854775807 ∧ x.ord.length ≤ 9223372036854775807 ∧ x.acc.length ≤ 9223372036854775807 ∧ x.sym.length ≤ 9223372036854775807
theorem exec_kind {x : Ex} (h : x.kind < 1 ∨ 8 < x.kind) : execB x = false := by
  unfold execB; rw [if_neg (by omega), if_neg (by omega)]; simp
theorem exec_oth {x : Ex} (h1 : ¬ (x.kind = 4 ∨ x.kind = 7 ∨ x.kind = 8)) (h2 : 1 ≤ x.kind ∧ x.kind ≤ 8) : execB x = (nameB x.id && nameB x.ord && nameB x.acc && nameB x.sym && decide (x.ref = []) && smallB x.qty && smallB x.price && whenB x.time) := by
  unfold execB; rw [if_neg h1, if_pos (by omega)]
theorem place_at {l : List Od} {i : Nat} {o : Od} (h : l[i]? = some o) : placeI l o.id = i ↔ placeF (l.take i) o.id = none := by
  rw [placeI_idx, idxI_at h (by simp), placeF, List.findIdx?_eq_none_iff]
theorem okAt_ref {l : List Od} {i : Nat} {o : Od} (h : l[i]? = some o) (h1 : mayB o = true) (h2 : placeI l o.id = i) : okAt l i = true := by
  unfold okAt; rw [h]; simp [h1, (place_at h).1 h2]
theorem okAt_refno {l : List Od} {i : Nat} {o : Od} (h : l[i]? = some o) (h2 : ¬ placeI l o.id = i) : okAt l i = false := by
  unfold okAt; rw [h]
  rw [place_at h] at h2
  cases hp : placeF (l.take i) o.id with
  | none => exact absurd hp h2
  | some n => simp [hp]
theorem right_long {l : List Od} {i : Nat} (h1 : i ≤ l.length) (h2 : i < l.length) (h3 : 63 < i) : rightO l = false := right_no1 (by omega)

end Go.Proofs.Ytajeeghgiilhiaa
