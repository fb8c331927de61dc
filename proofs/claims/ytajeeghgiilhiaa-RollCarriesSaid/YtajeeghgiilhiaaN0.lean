/- The world that the walks are in; the values of orders, executions, fills. -/
import Derived.Test.YtajeeghgiilhiaaFacts
import Derived.Test.YtajeeghgiilhiaaLd
import Derived.Test.YtajeeghgiilhiaaPl
namespace Go.Proofs.Ytajeeghgiilhiaa
open Go Go.Abs Go.RowKit Go.Bk
set_option linter.unusedVariables false
set_option linter.unusedSimpArgs false

noncomputable def E : Env := { P := Try.prog, ok := fun _ => True, mono := fun _ _ _ h => h, gl := fun _ => none }
/-- The same, where draws are counted. -/
noncomputable def ED : Env := { P := Try.prog, ok := fun _ => True, mono := fun _ _ _ h => h, gl := fun _ => none, dr := True }
@[go_sem] theorem ED_P : ED.P = Try.prog := rfl
@[go_sem] theorem ED_gl : ED.gl = fun _ => none := rfl
@[go_sem] theorem E_P : E.P = Try.prog := rfl
@[go_sem] theorem E_gl : E.gl = fun _ => none := rfl

abbrev odV (o : Od) : AV := .agg [str o.id, str o.acc, str o.sym, bl o.buy, i64 o.qty, i64 o.price, i64 o.done, bl o.opn]
abbrev exV (x : Ex) : AV := .agg [str x.id, str x.ref, str x.ord, str x.acc, str x.sym, i64 x.kind, bl x.buy, i64 x.qty, i64 x.price, i64 x.time]
abbrev dnV (f : Dn) : AV := .agg [str f.id, str f.ord, str f.acc, str f.sym, bl f.buy, i64 f.qty, i64 f.price, i64 f.time, bl f.live]
abbrev odsV (l : List Od) : AV := .sl none 8 (l.map odV)
abbrev dnsV (l : List Dn) : AV := .sl none 9 (l.map dnV)
theorem cl_str (s : Bs) : ∀ x ∈ (AV.agg [str s]).leaves, x.clean1 = some x := by
  intro x hx
  simp only [AV.leaves, List.mem_cons, List.not_mem_nil, or_false] at hx
  subst hx; rfl
theorem cl_od (l : List Od) : ∀ e ∈ l.map odV, ∀ x ∈ e.leaves, x.clean1 = some x := by
  intro e he x hx
  obtain ⟨o, _, rfl⟩ := List.mem_map.1 he
  simp only [AV.leaves, List.mem_cons, List.not_mem_nil, or_false] at hx
  rcases hx with rfl | rfl | rfl | rfl | rfl | rfl | rfl | rfl <;> rfl
theorem cl_dn (l : List Dn) : ∀ e ∈ l.map dnV, ∀ x ∈ e.leaves, x.clean1 = some x := by
  intro e he x hx
  obtain ⟨o, _, rfl⟩ := List.mem_map.1 he
  simp only [AV.leaves, List.mem_cons, List.not_mem_nil, or_false] at hx
  rcases hx with rfl | rfl | rfl | rfl | rfl | rfl | rfl | rfl | rfl <;> rfl
theorem cl_ex (x : Ex) : ∀ y ∈ (exV x).leaves, y.clean1 = some y := by
  intro y hx
  simp only [AV.leaves, List.mem_cons, List.not_mem_nil, or_false] at hx
  rcases hx with rfl | rfl | rfl | rfl | rfl | rfl | rfl | rfl | rfl | rfl <;> rfl
theorem pl_od (l : List Od) : ∀ e ∈ l.map odV, e.leaves.length = 8 ∧ ∀ y ∈ e.leaves, ∃ z, y = .v z := by
  intro e he
  obtain ⟨o, _, rfl⟩ := List.mem_map.1 he
  refine ⟨rfl, fun x hx => ?_⟩
  simp only [AV.leaves, List.mem_cons, List.not_mem_nil, or_false] at hx
  rcases hx with rfl | rfl | rfl | rfl | rfl | rfl | rfl | rfl <;> exact ⟨_, rfl⟩
theorem od_get {l : List Od} {n : Nat} {o : Od} (h : l[n]? = some o) (sp : List AV) : (l.map odV ++ sp)[n]? = some (odV o) := by
  have hn : n < l.length := by
    rcases Nat.lt_or_ge n l.length with h' | h'
    · exact h'
    · rw [List.getElem?_eq_none h'] at h; simp at h
  rw [List.getElem?_append_left (by simpa using hn), List.getElem?_map, h]; rfl
theorem od_set {l : List Od} {n : Nat} {o o' : Od} (h : l[n]? = some o) (sp : List AV) : (l.map odV ++ sp).set n (odV o') = (l.set n o').map odV ++ sp := by
  have hn : n < l.length := by
    rcases Nat.lt_or_ge n l.length with h' | h'
    · exact h'
    · rw [List.getElem?_eq_none h'] at h; simp at h
  rw [List.set_append_left _ _ (by simpa using hn), List.map_set]
theorem left_yes {o : Od} (h1 : mayB o = true) (h2 : o.opn = true) : IntKind.i64.wrap (o.qty - o.done) = leftF o := by
  have h := h1
  simp only [mayB, smallB, Bool.and_eq_true, decide_eq_true_eq] at h
  rw [wrap64_id (by omega) (by omega)]
  simp [leftF, h1, h2]
end Go.Proofs.Ytajeeghgiilhiaa
