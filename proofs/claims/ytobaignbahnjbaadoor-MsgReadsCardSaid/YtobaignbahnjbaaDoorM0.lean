/- Messages as values. -/
import Derived.Test.YtobaignbahnjbaaDoorN0
import Derived.Test.YtobaignbahnjbaaDoorMsgD
namespace Go.Proofs.YtobaignbahnjbaaDoor
open Go Go.Abs Go.RowKit Go.Bk Go.Msg
set_option linter.unusedVariables false
set_option linter.unusedSimpArgs false
abbrev exV (x : Ex) : AV := .agg [str x.id, str x.ref, str x.ord, str x.acc, str x.sym, i64 x.kind, bl x.buy, i64 x.qty, i64 x.price, i64 x.time]
abbrev mgV (m : Mg) : AV := .agg [i64 m.kind, i64 m.seq, i64 m.time, bl m.copy, i64 m.a, i64 m.b, bl m.gap, str m.text, str m.exec.id, str m.exec.ref, str m.exec.ord, str m.exec.acc, str m.exec.sym, i64 m.exec.kind, bl m.exec.buy, i64 m.exec.qty, i64 m.exec.price, i64 m.exec.time]
theorem mg_eq (m n : Mg) : (decide (m.kind = n.kind) && (decide (m.seq = n.seq) && (decide (m.time = n.time) && (decide (m.copy = n.copy) && (decide (m.a = n.a) && (decide (m.b = n.b) && (decide (m.gap = n.gap) && (decide (m.text = n.text) &&
    (decide (m.exec.id = n.exec.id) && (decide (m.exec.ref = n.exec.ref) && (decide (m.exec.ord = n.exec.ord) && (decide (m.exec.acc = n.exec.acc) && (decide (m.exec.sym = n.exec.sym) && (decide (m.exec.kind = n.exec.kind) && (decide (m.exec.buy = n.exec.buy) &&
    (decide (m.exec.qty = n.exec.qty) && (decide (m.exec.price = n.exec.price) && (decide (m.exec.time = n.exec.time) && true)))))))))))))))))) = decide (m = n) := by
  obtain ⟨k, s, t, c, a, b, g, x, e⟩ := m
  obtain ⟨k', s', t', c', a', b', g', x', e'⟩ := n
  obtain ⟨e1, e2, e3, e4, e5, e6, e7, e8, e9, e10⟩ := e
  obtain ⟨f1, f2, f3, f4, f5, f6, f7, f8, f9, f10⟩ := e'
  rw [Bool.eq_iff_iff]
  simp [and_assoc]
end Go.Proofs.YtobaignbahnjbaaDoor
