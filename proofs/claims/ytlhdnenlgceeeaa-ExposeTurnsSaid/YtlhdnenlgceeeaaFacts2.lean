/- More closed facts on types and functions; made by program. -/
import Derived.Test.YtlhdnenlgceeeaaFacts
namespace Go.Proofs.Ytlhdnenlgceeeaa
open Go Go.Abs

theorem ld42 : loadInfo Try.prog 42 = some (true, 2) := by kernel_rfl
theorem ld56 : loadInfo Try.prog 56 = some (true, 5) := by kernel_rfl
theorem ld104 : loadInfo Try.prog 104 = some (true, 2) := by kernel_rfl
theorem fi42_0 : fieldInfo Try.prog 42 0 = some (0, 2, 1) := by kernel_rfl
theorem fi42_1 : fieldInfo Try.prog 42 1 = some (1, 2, 1) := by kernel_rfl
theorem fi56_2 : fieldInfo Try.prog 56 2 = some (2, 2, 1) := by kernel_rfl
theorem fi56_3 : fieldInfo Try.prog 56 3 = some (3, 2, 1) := by kernel_rfl
theorem fi56_4 : fieldInfo Try.prog 56 4 = some (4, 4, 1) := by kernel_rfl
theorem fi104_0 : fieldInfo Try.prog 104 0 = some (0, 9, 1) := by kernel_rfl
theorem fi104_1 : fieldInfo Try.prog 104 1 = some (1, 9, 1) := by kernel_rfl
theorem ix82 : idxInfo Try.prog 82 = some (none, 2, 1) := by kernel_rfl
theorem ix102 : idxInfo Try.prog 102 = some (none, 104, 2) := by kernel_rfl
theorem ap82 : appInfo Try.prog 82 = some (2, 1, 8) := by kernel_rfl
theorem ap86 : appInfo Try.prog 86 = some (56, 5, 56) := by kernel_rfl
theorem ap102 : appInfo Try.prog 102 = some (104, 2, 32) := by kernel_rfl
theorem ap134 : appInfo Try.prog 134 = some (3, 1, 8) := by kernel_rfl
theorem sz42 : tsz Try.prog 42 = some 2 := by kernel_rfl
theorem sz56 : tsz Try.prog 56 = some 5 := by kernel_rfl
theorem sz104 : tsz Try.prog 104 = some 2 := by kernel_rfl
theorem sz141 : tsz Try.prog 141 = some 1 := by kernel_rfl
theorem sr82 : srcTy Try.prog 82 = true := by kernel_rfl
theorem sr86 : srcTy Try.prog 86 = true := by kernel_rfl
theorem sr102 : srcTy Try.prog 102 = true := by kernel_rfl
theorem fk42 : flatKinds Try.prog 42 = some [0, 0] := by kernel_rfl
theorem fk56 : flatKinds Try.prog 56 = some [1, 1, 0, 0, 2] := by kernel_rfl
theorem fk104 : flatKinds Try.prog 104 = some [1, 1] := by kernel_rfl
theorem cl18 : callable Try.prog 18 = true := by kernel_rfl
theorem cl19 : callable Try.prog 19 = true := by kernel_rfl
theorem cl20 : callable Try.prog 20 = true := by kernel_rfl
theorem cl22 : callable Try.prog 22 = true := by kernel_rfl
theorem cl23 : callable Try.prog 23 = true := by kernel_rfl
theorem cl24 : callable Try.prog 24 = true := by kernel_rfl
theorem cl25 : callable Try.prog 25 = true := by kernel_rfl
theorem cl31 : callable Try.prog 31 = true := by kernel_rfl
theorem cl36 : callable Try.prog 36 = true := by kernel_rfl
theorem cl37 : callable Try.prog 37 = true := by kernel_rfl
theorem cl38 : callable Try.prog 38 = true := by kernel_rfl
theorem cl39 : callable Try.prog 39 = true := by kernel_rfl
theorem cl51 : callable Try.prog 51 = true := by kernel_rfl
theorem cl52 : callable Try.prog 52 = true := by kernel_rfl
theorem cl54 : callable Try.prog 54 = true := by kernel_rfl
theorem cl55 : callable Try.prog 55 = true := by kernel_rfl
theorem cl56 : callable Try.prog 56 = true := by kernel_rfl
theorem cl57 : callable Try.prog 57 = true := by kernel_rfl
theorem cl62 : callable Try.prog 62 = true := by kernel_rfl
theorem cl64 : callable Try.prog 64 = true := by kernel_rfl
theorem cl65 : callable Try.prog 65 = true := by kernel_rfl
theorem cl66 : callable Try.prog 66 = true := by kernel_rfl
theorem cl76 : callable Try.prog 76 = true := by kernel_rfl
theorem cl77 : callable Try.prog 77 = true := by kernel_rfl
theorem cl78 : callable Try.prog 78 = true := by kernel_rfl
theorem cl79 : callable Try.prog 79 = true := by kernel_rfl
theorem cl80 : callable Try.prog 80 = true := by kernel_rfl
theorem cl81 : callable Try.prog 81 = true := by kernel_rfl
theorem cl88 : callable Try.prog 88 = true := by kernel_rfl
theorem cl89 : callable Try.prog 89 = true := by kernel_rfl
theorem cl90 : callable Try.prog 90 = true := by kernel_rfl
theorem cl92 : callable Try.prog 92 = true := by kernel_rfl
theorem cl94 : callable Try.prog 94 = true := by kernel_rfl
theorem cl95 : callable Try.prog 95 = true := by kernel_rfl
theorem cl96 : callable Try.prog 96 = true := by kernel_rfl
theorem cl120 : callable Try.prog 120 = true := by kernel_rfl
theorem cl121 : callable Try.prog 121 = true := by kernel_rfl
theorem cl122 : callable Try.prog 122 = true := by kernel_rfl
theorem cl123 : callable Try.prog 123 = true := by kernel_rfl
theorem cl124 : callable Try.prog 124 = true := by kernel_rfl
theorem cl125 : callable Try.prog 125 = true := by kernel_rfl
theorem cl126 : callable Try.prog 126 = true := by kernel_rfl
theorem cl134 : callable Try.prog 134 = true := by kernel_rfl
theorem cl135 : callable Try.prog 135 = true := by kernel_rfl
theorem cl138 : callable Try.prog 138 = true := by kernel_rfl
theorem cl139 : callable Try.prog 139 = true := by kernel_rfl
theorem cl140 : callable Try.prog 140 = true := by kernel_rfl
theorem cl141 : callable Try.prog 141 = true := by kernel_rfl
theorem cl142 : callable Try.prog 142 = true := by kernel_rfl
theorem cl143 : callable Try.prog 143 = true := by kernel_rfl
theorem cl144 : callable Try.prog 144 = true := by kernel_rfl
theorem cl145 : callable Try.prog 145 = true := by kernel_rfl
theorem cl146 : callable Try.prog 146 = true := by kernel_rfl
theorem cl147 : callable Try.prog 147 = true := by kernel_rfl
theorem cl150 : callable Try.prog 150 = true := by kernel_rfl
theorem cl151 : callable Try.prog 151 = true := by kernel_rfl
theorem cl152 : callable Try.prog 152 = true := by kernel_rfl
theorem cl153 : callable Try.prog 153 = true := by kernel_rfl
theorem tz3 : tzero Try.prog 3 = some [.v (.int .i64 0)] := by kernel_rfl
theorem tz42 : tzero Try.prog 42 = some [.v (.int .i64 0), .v (.int .i64 0)] := by kernel_rfl
theorem tz56 : tzero Try.prog 56 = some [.v (.string ⟨#[]⟩), .v (.string ⟨#[]⟩), .v (.int .i64 0), .v (.int .i64 0), .v (.bool false)] := by kernel_rfl
theorem tz104 : tzero Try.prog 104 = some [.v (.string ⟨#[]⟩), .v (.string ⟨#[]⟩)] := by kernel_rfl
theorem tz141 : tzero Try.prog 141 = some [.v (.int .u64 0)] := by kernel_rfl
theorem bs32 : buildS Try.prog 32 = some [(0, 1), (1, 1), (2, 1), (3, 1), (4, 1)] := by kernel_rfl
theorem bs42 : buildS Try.prog 42 = some [(0, 1), (1, 1)] := by kernel_rfl
theorem bs56 : buildS Try.prog 56 = some [(0, 1), (1, 1), (2, 1), (3, 1), (4, 1)] := by kernel_rfl
theorem bs104 : buildS Try.prog 104 = some [(0, 1), (1, 1)] := by kernel_rfl
theorem ud82 : Try.prog.underlying 82 = some (.slice 2) := by kernel_rfl
theorem ud86 : Try.prog.underlying 86 = some (.slice 56) := by kernel_rfl
theorem ud89 : Try.prog.underlying 89 = some (.int (Go.IntKind.u64)) := by kernel_rfl
theorem ud97 : Try.prog.underlying 97 = some (.int (Go.IntKind.u64)) := by kernel_rfl
theorem ud102 : Try.prog.underlying 102 = some (.slice 104) := by kernel_rfl
theorem ud119 : Try.prog.underlying 119 = some (.int (Go.IntKind.i64)) := by kernel_rfl
theorem ud141 : Try.prog.underlying 141 = some (.int (Go.IntKind.u64)) := by kernel_rfl
attribute [go_sem] ld42 ld56 ld104 fi42_0 fi42_1 fi56_2 fi56_3 fi56_4 fi104_0 fi104_1 ix82 ix102 ap82 ap86 ap102 ap134 sz42 sz56 sz104 sz141 sr82 sr86 sr102 fk42 fk56 fk104 cl18 cl19 cl20 cl22 cl23 cl24 cl25 cl31 cl36 cl37 cl38 cl39 cl51 cl52 cl54 cl55 cl56 cl57 cl62 cl64 cl65 cl66 cl76 cl77 cl78 cl79 cl80 cl81 cl88 cl89 cl90 cl92 cl94 cl95 cl96 cl120 cl121 cl122 cl123 cl124 cl125 cl126 cl134 cl135 cl138 cl139 cl140 cl141 cl142 cl143 cl144 cl145 cl146 cl147 cl150 cl151 cl152 cl153 tz3 tz42 tz56 tz104 tz141 bs32 bs42 bs56 bs104 ud82 ud86 ud89 ud97 ud102 ud119 ud141
end Go.Proofs.Ytlhdnenlgceeeaa
