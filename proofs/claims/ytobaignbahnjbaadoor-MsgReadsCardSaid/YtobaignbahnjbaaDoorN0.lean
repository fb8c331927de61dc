/- The world that the walks are in: what its variables hold. -/
import Derived.Test.YtobaignbahnjbaaDoorFacts
import Derived.Test.YtobaignbahnjbaaDoorLn
import Derived.Test.YtobaignbahnjbaaDoorFldT
import Derived.Lib.LaidTab
import Derived.WalkSmall
namespace Go.Proofs.YtobaignbahnjbaaDoor
open Go Go.Abs Go.RowKit Go.Fld
set_option linter.unusedVariables false
set_option linter.unusedSimpArgs false

def okW (w : World) : Prop := Lib.TabIs Tryd.prog w "internal/strconv.uint64pow10" .u64 Lib.pow10Tab ∧ (∃ tp p, w.var? Tryd.prog "strconv.ErrRange" = some #[.iface tp p]) ∧
  ∃ m, w.cell? ⟨0, 0, none⟩ = some (.int .i64 m)
theorem var_mono {w w' : World} {n : String} {cs : Array Value} (hb : Below w.heap.size w w') (h : w.var? Tryd.prog n = some cs) : w'.var? Tryd.prog n = some cs := by
  unfold World.var? at h ⊢
  cases hg : Tryd.prog.globalNamed n with
  | none => simp [hg] at h
  | some g =>
    simp only [hg, Option.bind_some] at h ⊢
    have hlt : g < w.heap.size := by
      rcases Nat.lt_or_ge g w.heap.size with h' | h'
      · exact h'
      · rw [Array.getElem?_eq_none h'] at h; simp at h
    rw [hb.block g hlt]; exact h
noncomputable def E : Env := ⟨Tryd.prog, okW, fun _ _ hb h => ⟨var_mono hb h.1, let ⟨tp, p, h2⟩ := h.2.1; ⟨tp, p, var_mono hb h2⟩, let ⟨m, h3⟩ := h.2.2; ⟨m, (cell_of_block (hb.block 0 (World.block_lt_of_cell? _ ⟨0, 0, none⟩ h3)) 0).trans h3⟩⟩, fun _ => none⟩
@[go_sem] theorem E_P : E.P = Tryd.prog := rfl
@[go_sem] theorem E_gl : E.gl = fun _ => none := rfl

abbrev fldV (f : Fld.Fd) : AV := .agg [i64 f.1, str f.2]
abbrev bytesV (l : Bs) : AV := .sl none 1 (l.map u8)
abbrev fldsV (l : List Fld.Fd) : AV := .sl none 2 (l.map fldV)
/-- One that may be appended to, or not: whatever. -/
def bytesR (l : Bs) (r : AV) (t : List Nat) : Prop := r = .sl (some 0) 1 (l.map u8) ∧ t = [l.length]
end Go.Proofs.YtobaignbahnjbaaDoor
