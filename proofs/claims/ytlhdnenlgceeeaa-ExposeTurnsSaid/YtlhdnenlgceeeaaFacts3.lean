/- More closed facts on types and functions; made by program. -/
import Derived.Test.YtlhdnenlgceeeaaFacts
namespace Go.Proofs.Ytlhdnenlgceeeaa
open Go Go.Abs

theorem ix134 : idxInfo Try.prog 134 = some (none, 3, 1) := by kernel_rfl
theorem cl118 : callable Try.prog 118 = true := by kernel_rfl
theorem cl119 : callable Try.prog 119 = true := by kernel_rfl
theorem ud126 : Try.prog.underlying 126 = some (.int (Go.IntKind.u32)) := by kernel_rfl
theorem ud134 : Try.prog.underlying 134 = some (.slice 3) := by kernel_rfl
attribute [go_sem] ix134 cl118 cl119 ud126 ud134
end Go.Proofs.Ytlhdnenlgceeeaa
