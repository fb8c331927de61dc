/- Closed facts on the types and functions that the code names, for the abstract layer; made by program. -/
import Derived.Test.YtceiiajacnihjaaRows
import Derived.Test.YtceiiajacnihjaaLn
namespace Go.Proofs.Ytceiiajacnihjaa
open Go Go.Abs

theorem ld2 : loadInfo Try.prog 2 = some (false, 1) := by kernel_rfl
theorem ld3 : loadInfo Try.prog 3 = some (false, 1) := by kernel_rfl
theorem ld4 : loadInfo Try.prog 4 = some (false, 1) := by kernel_rfl
theorem ld9 : loadInfo Try.prog 9 = some (false, 1) := by kernel_rfl
theorem ld21 : loadInfo Try.prog 21 = some (false, 1) := by kernel_rfl
theorem ld22 : loadInfo Try.prog 22 = some (false, 1) := by kernel_rfl
theorem ld35 : loadInfo Try.prog 35 = some (false, 1) := by kernel_rfl
theorem ld37 : loadInfo Try.prog 37 = some (true, 2) := by kernel_rfl
theorem ld54 : loadInfo Try.prog 54 = some (false, 1) := by kernel_rfl
theorem ld122 : loadInfo Try.prog 122 = some (false, 1) := by kernel_rfl
theorem fi37_0 : fieldInfo Try.prog 37 0 = some (0, 22, 1) := by kernel_rfl
theorem fi37_1 : fieldInfo Try.prog 37 1 = some (1, 35, 1) := by kernel_rfl
theorem fi41_0 : fieldInfo Try.prog 41 0 = some (0, 9, 1) := by kernel_rfl
theorem fi41_1 : fieldInfo Try.prog 41 1 = some (1, 2, 1) := by kernel_rfl
theorem fi59_0 : fieldInfo Try.prog 59 0 = some (0, 21, 1) := by kernel_rfl
theorem fi59_1 : fieldInfo Try.prog 59 1 = some (1, 57, 1) := by kernel_rfl
theorem fi61_1 : fieldInfo Try.prog 61 1 = some (0, 59, 2) := by kernel_rfl
theorem fi64_1 : fieldInfo Try.prog 64 1 = some (0, 57, 1) := by kernel_rfl
theorem fi66_1 : fieldInfo Try.prog 66 1 = some (0, 64, 1) := by kernel_rfl
theorem fi66_2 : fieldInfo Try.prog 66 2 = some (1, 61, 2) := by kernel_rfl
theorem fi68_0 : fieldInfo Try.prog 68 0 = some (0, 22, 1) := by kernel_rfl
theorem fi68_1 : fieldInfo Try.prog 68 1 = some (1, 54, 1) := by kernel_rfl
theorem fi68_2 : fieldInfo Try.prog 68 2 = some (2, 61, 2) := by kernel_rfl
theorem fi68_3 : fieldInfo Try.prog 68 3 = some (4, 66, 3) := by kernel_rfl
theorem fi79_2 : fieldInfo Try.prog 79 2 = some (0, 2, 1) := by kernel_rfl
theorem ix22 : idxInfo Try.prog 22 = some (none, 9, 1) := by kernel_rfl
theorem ix34 : idxInfo Try.prog 34 = some (none, 41, 2) := by kernel_rfl
theorem ix35 : idxInfo Try.prog 35 = some (none, 2, 1) := by kernel_rfl
theorem ix54 : idxInfo Try.prog 54 = some (none, 79, 1) := by kernel_rfl
theorem ap22 : appInfo Try.prog 22 = some (9, 1, 16) := by kernel_rfl
theorem ap35 : appInfo Try.prog 35 = some (2, 1, 8) := by kernel_rfl
theorem ap54 : appInfo Try.prog 54 = some (79, 1, 8) := by kernel_rfl
theorem sz2 : tsz Try.prog 2 = some 1 := by kernel_rfl
theorem sz3 : tsz Try.prog 3 = some 1 := by kernel_rfl
theorem sz4 : tsz Try.prog 4 = some 1 := by kernel_rfl
theorem sz9 : tsz Try.prog 9 = some 1 := by kernel_rfl
theorem sz22 : tsz Try.prog 22 = some 1 := by kernel_rfl
theorem sz35 : tsz Try.prog 35 = some 1 := by kernel_rfl
theorem sz37 : tsz Try.prog 37 = some 2 := by kernel_rfl
theorem sz41 : tsz Try.prog 41 = some 2 := by kernel_rfl
theorem sz68 : tsz Try.prog 68 = some 7 := by kernel_rfl
theorem sz79 : tsz Try.prog 79 = some 1 := by kernel_rfl
theorem sz122 : tsz Try.prog 122 = some 1 := by kernel_rfl
theorem sr22 : srcTy Try.prog 22 = true := by kernel_rfl
theorem sr35 : srcTy Try.prog 35 = true := by kernel_rfl
theorem cl6 : callable Try.prog 6 = true := by kernel_rfl
theorem cl7 : callable Try.prog 7 = true := by kernel_rfl
theorem cl8 : callable Try.prog 8 = true := by kernel_rfl
theorem cl9 : callable Try.prog 9 = true := by kernel_rfl
theorem cl10 : callable Try.prog 10 = true := by kernel_rfl
theorem cl11 : callable Try.prog 11 = true := by kernel_rfl
theorem cl12 : callable Try.prog 12 = true := by kernel_rfl
theorem cl13 : callable Try.prog 13 = true := by kernel_rfl
theorem cl14 : callable Try.prog 14 = true := by kernel_rfl
theorem cl15 : callable Try.prog 15 = true := by kernel_rfl
theorem cl16 : callable Try.prog 16 = true := by kernel_rfl
theorem cl17 : callable Try.prog 17 = true := by kernel_rfl
theorem cl18 : callable Try.prog 18 = true := by kernel_rfl
theorem cl19 : callable Try.prog 19 = true := by kernel_rfl
theorem cl20 : callable Try.prog 20 = true := by kernel_rfl
theorem cl21 : callable Try.prog 21 = true := by kernel_rfl
theorem cl22 : callable Try.prog 22 = true := by kernel_rfl
theorem cl23 : callable Try.prog 23 = true := by kernel_rfl
theorem cl24 : callable Try.prog 24 = true := by kernel_rfl
theorem cl25 : callable Try.prog 25 = true := by kernel_rfl
theorem cl27 : callable Try.prog 27 = true := by kernel_rfl
theorem cl28 : callable Try.prog 28 = true := by kernel_rfl
theorem cl29 : callable Try.prog 29 = true := by kernel_rfl
theorem cl30 : callable Try.prog 30 = true := by kernel_rfl
theorem cl31 : callable Try.prog 31 = true := by kernel_rfl
theorem cl33 : callable Try.prog 33 = true := by kernel_rfl
theorem cl34 : callable Try.prog 34 = true := by kernel_rfl
theorem cl35 : callable Try.prog 35 = true := by kernel_rfl
theorem cl36 : callable Try.prog 36 = true := by kernel_rfl
theorem cl38 : callable Try.prog 38 = true := by kernel_rfl
theorem cl39 : callable Try.prog 39 = true := by kernel_rfl
theorem cl41 : callable Try.prog 41 = true := by kernel_rfl
theorem cl42 : callable Try.prog 42 = true := by kernel_rfl
theorem cl43 : callable Try.prog 43 = true := by kernel_rfl
theorem cl44 : callable Try.prog 44 = true := by kernel_rfl
theorem cl45 : callable Try.prog 45 = true := by kernel_rfl
theorem cl46 : callable Try.prog 46 = true := by kernel_rfl
theorem cl51 : callable Try.prog 51 = true := by kernel_rfl
theorem cl54 : callable Try.prog 54 = true := by kernel_rfl
theorem cl57 : callable Try.prog 57 = true := by kernel_rfl
theorem cl58 : callable Try.prog 58 = true := by kernel_rfl
theorem cl59 : callable Try.prog 59 = true := by kernel_rfl
theorem cl60 : callable Try.prog 60 = true := by kernel_rfl
theorem cl61 : callable Try.prog 61 = true := by kernel_rfl
theorem cl62 : callable Try.prog 62 = true := by kernel_rfl
theorem cl63 : callable Try.prog 63 = true := by kernel_rfl
theorem cl64 : callable Try.prog 64 = true := by kernel_rfl
theorem cl65 : callable Try.prog 65 = true := by kernel_rfl
theorem cl76 : callable Try.prog 76 = true := by kernel_rfl
theorem cl77 : callable Try.prog 77 = true := by kernel_rfl
theorem cl78 : callable Try.prog 78 = true := by kernel_rfl
theorem cl79 : callable Try.prog 79 = true := by kernel_rfl
theorem cl80 : callable Try.prog 80 = true := by kernel_rfl
theorem cl81 : callable Try.prog 81 = true := by kernel_rfl
theorem cl83 : callable Try.prog 83 = true := by kernel_rfl
theorem tz3 : tzero Try.prog 3 = some [.v (.int .i64 0)] := by kernel_rfl
theorem tz4 : tzero Try.prog 4 = some [.v (.bool false)] := by kernel_rfl
theorem tz37 : tzero Try.prog 37 = some [.nilS, .nilS] := by kernel_rfl
theorem tz68 : tzero Try.prog 68 = some [.nilS, .nilS, .v (.int .i32 0), .v (.int .u32 0), .v (.int .u32 0), .v (.int .i32 0), .v (.int .u32 0)] := by kernel_rfl
theorem tz122 : tzero Try.prog 122 = some [.v (.int .u64 0)] := by kernel_rfl
theorem bs37 : buildS Try.prog 37 = some [(0, 1), (1, 1)] := by kernel_rfl
theorem bs68 : buildS Try.prog 68 = some [(0, 1), (1, 1), (2, 2), (4, 3)] := by kernel_rfl
theorem ud2 : Try.prog.underlying 2 = some (.int (Go.IntKind.i64)) := by kernel_rfl
theorem ud3 : Try.prog.underlying 3 = some (.int (Go.IntKind.i64)) := by kernel_rfl
theorem ud4 : Try.prog.underlying 4 = some (.bool) := by kernel_rfl
theorem ud9 : Try.prog.underlying 9 = some (.string) := by kernel_rfl
theorem ud21 : Try.prog.underlying 21 = some (.int (Go.IntKind.i32)) := by kernel_rfl
theorem ud22 : Try.prog.underlying 22 = some (.slice 9) := by kernel_rfl
theorem ud24 : Try.prog.underlying 24 = some (.pointer 68) := by kernel_rfl
theorem ud25 : Try.prog.underlying 25 = some (.int (Go.IntKind.i64)) := by kernel_rfl
theorem ud34 : Try.prog.underlying 34 = some (.slice 41) := by kernel_rfl
theorem ud35 : Try.prog.underlying 35 = some (.slice 2) := by kernel_rfl
theorem ud54 : Try.prog.underlying 54 = some (.slice 79) := by kernel_rfl
theorem ud57 : Try.prog.underlying 57 = some (.int (Go.IntKind.u32)) := by kernel_rfl
theorem ud70 : Try.prog.underlying 70 = some (.pointer 79) := by kernel_rfl
theorem ud80 : Try.prog.underlying 80 = some (.int (Go.IntKind.u64)) := by kernel_rfl
theorem ud83 : Try.prog.underlying 83 = some (.int (Go.IntKind.u64)) := by kernel_rfl
theorem ud95 : Try.prog.underlying 95 = some (.pointer 59) := by kernel_rfl
theorem ud99 : Try.prog.underlying 99 = some (.unsafePointer) := by kernel_rfl
theorem ud107 : Try.prog.underlying 107 = some (.int (Go.IntKind.i64)) := by kernel_rfl
theorem ud122 : Try.prog.underlying 122 = some (.int (Go.IntKind.u64)) := by kernel_rfl
attribute [go_sem] ld2 ld3 ld4 ld9 ld21 ld22 ld35 ld37 ld54 ld122 fi37_0 fi37_1 fi41_0 fi41_1 fi59_0 fi59_1 fi61_1 fi64_1 fi66_1 fi66_2 fi68_0 fi68_1 fi68_2 fi68_3 fi79_2 ix22 ix34 ix35 ix54 ap22 ap35 ap54 sz2 sz3 sz4 sz9 sz22 sz35 sz37 sz41 sz68 sz79 sz122 sr22 sr35 cl6 cl7 cl8 cl9 cl10 cl11 cl12 cl13 cl14 cl15 cl16 cl17 cl18 cl19 cl20 cl21 cl22 cl23 cl24 cl25 cl27 cl28 cl29 cl30 cl31 cl33 cl34 cl35 cl36 cl38 cl39 cl41 cl42 cl43 cl44 cl45 cl46 cl51 cl54 cl57 cl58 cl59 cl60 cl61 cl62 cl63 cl64 cl65 cl76 cl77 cl78 cl79 cl80 cl81 cl83 tz3 tz4 tz37 tz68 tz122 bs37 bs68 ud2 ud3 ud4 ud9 ud21 ud22 ud24 ud25 ud34 ud35 ud54 ud57 ud70 ud80 ud83 ud95 ud99 ud107 ud122
end Go.Proofs.Ytceiiajacnihjaa
