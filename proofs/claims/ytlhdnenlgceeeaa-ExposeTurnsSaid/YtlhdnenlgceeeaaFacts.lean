/- Closed facts on the types and functions that the code names, for the abstract layer; made by program. -/
import Derived.Test.YtlhdnenlgceeeaaRows
import Derived.Test.YtlhdnenlgceeeaaLd
namespace Go.Proofs.Ytlhdnenlgceeeaa
open Go Go.Abs

theorem ld2 : loadInfo Try.prog 2 = some (false, 1) := by kernel_rfl
theorem ld3 : loadInfo Try.prog 3 = some (false, 1) := by kernel_rfl
theorem ld4 : loadInfo Try.prog 4 = some (false, 1) := by kernel_rfl
theorem ld5 : loadInfo Try.prog 5 = some (false, 1) := by kernel_rfl
theorem ld9 : loadInfo Try.prog 9 = some (false, 1) := by kernel_rfl
theorem ld26 : loadInfo Try.prog 26 = some (true, 10) := by kernel_rfl
theorem ld28 : loadInfo Try.prog 28 = some (false, 1) := by kernel_rfl
theorem ld29 : loadInfo Try.prog 29 = some (false, 1) := by kernel_rfl
theorem ld30 : loadInfo Try.prog 30 = some (false, 1) := by kernel_rfl
theorem ld32 : loadInfo Try.prog 32 = some (true, 5) := by kernel_rfl
theorem ld38 : loadInfo Try.prog 38 = some (true, 9) := by kernel_rfl
theorem ld40 : loadInfo Try.prog 40 = some (true, 8) := by kernel_rfl
theorem fi26_0 : fieldInfo Try.prog 26 0 = some (0, 9, 1) := by kernel_rfl
theorem fi26_1 : fieldInfo Try.prog 26 1 = some (1, 9, 1) := by kernel_rfl
theorem fi26_2 : fieldInfo Try.prog 26 2 = some (2, 9, 1) := by kernel_rfl
theorem fi26_3 : fieldInfo Try.prog 26 3 = some (3, 9, 1) := by kernel_rfl
theorem fi26_4 : fieldInfo Try.prog 26 4 = some (4, 9, 1) := by kernel_rfl
theorem fi26_5 : fieldInfo Try.prog 26 5 = some (5, 3, 1) := by kernel_rfl
theorem fi26_6 : fieldInfo Try.prog 26 6 = some (6, 4, 1) := by kernel_rfl
theorem fi26_7 : fieldInfo Try.prog 26 7 = some (7, 2, 1) := by kernel_rfl
theorem fi26_8 : fieldInfo Try.prog 26 8 = some (8, 2, 1) := by kernel_rfl
theorem fi26_9 : fieldInfo Try.prog 26 9 = some (9, 2, 1) := by kernel_rfl
theorem fi32_0 : fieldInfo Try.prog 32 0 = some (0, 28, 1) := by kernel_rfl
theorem fi32_1 : fieldInfo Try.prog 32 1 = some (1, 29, 1) := by kernel_rfl
theorem fi32_2 : fieldInfo Try.prog 32 2 = some (2, 30, 1) := by kernel_rfl
theorem fi32_3 : fieldInfo Try.prog 32 3 = some (3, 2, 1) := by kernel_rfl
theorem fi32_4 : fieldInfo Try.prog 32 4 = some (4, 3, 1) := by kernel_rfl
theorem fi38_0 : fieldInfo Try.prog 38 0 = some (0, 9, 1) := by kernel_rfl
theorem fi38_1 : fieldInfo Try.prog 38 1 = some (1, 9, 1) := by kernel_rfl
theorem fi38_2 : fieldInfo Try.prog 38 2 = some (2, 9, 1) := by kernel_rfl
theorem fi38_3 : fieldInfo Try.prog 38 3 = some (3, 9, 1) := by kernel_rfl
theorem fi38_4 : fieldInfo Try.prog 38 4 = some (4, 4, 1) := by kernel_rfl
theorem fi38_5 : fieldInfo Try.prog 38 5 = some (5, 2, 1) := by kernel_rfl
theorem fi38_6 : fieldInfo Try.prog 38 6 = some (6, 2, 1) := by kernel_rfl
theorem fi38_7 : fieldInfo Try.prog 38 7 = some (7, 2, 1) := by kernel_rfl
theorem fi38_8 : fieldInfo Try.prog 38 8 = some (8, 4, 1) := by kernel_rfl
theorem fi40_0 : fieldInfo Try.prog 40 0 = some (0, 9, 1) := by kernel_rfl
theorem fi40_1 : fieldInfo Try.prog 40 1 = some (1, 9, 1) := by kernel_rfl
theorem fi40_2 : fieldInfo Try.prog 40 2 = some (2, 9, 1) := by kernel_rfl
theorem fi40_3 : fieldInfo Try.prog 40 3 = some (3, 4, 1) := by kernel_rfl
theorem fi40_4 : fieldInfo Try.prog 40 4 = some (4, 2, 1) := by kernel_rfl
theorem fi40_5 : fieldInfo Try.prog 40 5 = some (5, 2, 1) := by kernel_rfl
theorem fi40_6 : fieldInfo Try.prog 40 6 = some (6, 2, 1) := by kernel_rfl
theorem fi40_7 : fieldInfo Try.prog 40 7 = some (7, 4, 1) := by kernel_rfl
theorem ix22 : idxInfo Try.prog 22 = some (none, 26, 10) := by kernel_rfl
theorem ix23 : idxInfo Try.prog 23 = some (none, 5, 1) := by kernel_rfl
theorem ix28 : idxInfo Try.prog 28 = some (none, 40, 8) := by kernel_rfl
theorem ix29 : idxInfo Try.prog 29 = some (none, 38, 9) := by kernel_rfl
theorem ix30 : idxInfo Try.prog 30 = some (none, 9, 1) := by kernel_rfl
theorem ap22 : appInfo Try.prog 22 = some (26, 10, 120) := by kernel_rfl
theorem ap28 : appInfo Try.prog 28 = some (40, 8, 88) := by kernel_rfl
theorem ap29 : appInfo Try.prog 29 = some (38, 9, 104) := by kernel_rfl
theorem ap30 : appInfo Try.prog 30 = some (9, 1, 16) := by kernel_rfl
theorem sz2 : tsz Try.prog 2 = some 1 := by kernel_rfl
theorem sz3 : tsz Try.prog 3 = some 1 := by kernel_rfl
theorem sz4 : tsz Try.prog 4 = some 1 := by kernel_rfl
theorem sz5 : tsz Try.prog 5 = some 1 := by kernel_rfl
theorem sz9 : tsz Try.prog 9 = some 1 := by kernel_rfl
theorem sz26 : tsz Try.prog 26 = some 10 := by kernel_rfl
theorem sz28 : tsz Try.prog 28 = some 1 := by kernel_rfl
theorem sz29 : tsz Try.prog 29 = some 1 := by kernel_rfl
theorem sz30 : tsz Try.prog 30 = some 1 := by kernel_rfl
theorem sz32 : tsz Try.prog 32 = some 5 := by kernel_rfl
theorem sz38 : tsz Try.prog 38 = some 9 := by kernel_rfl
theorem sz40 : tsz Try.prog 40 = some 8 := by kernel_rfl
theorem sr22 : srcTy Try.prog 22 = true := by kernel_rfl
theorem sr28 : srcTy Try.prog 28 = true := by kernel_rfl
theorem sr29 : srcTy Try.prog 29 = true := by kernel_rfl
theorem sr30 : srcTy Try.prog 30 = true := by kernel_rfl
theorem fk26 : flatKinds Try.prog 26 = some [1, 1, 1, 1, 1, 0, 2, 0, 0, 0] := by kernel_rfl
theorem fk38 : flatKinds Try.prog 38 = some [1, 1, 1, 1, 2, 0, 0, 0, 2] := by kernel_rfl
theorem fk40 : flatKinds Try.prog 40 = some [1, 1, 1, 2, 0, 0, 0, 2] := by kernel_rfl
theorem cl15 : callable Try.prog 15 = true := by kernel_rfl
theorem cl16 : callable Try.prog 16 = true := by kernel_rfl
theorem cl17 : callable Try.prog 17 = true := by kernel_rfl
theorem cl21 : callable Try.prog 21 = true := by kernel_rfl
theorem cl26 : callable Try.prog 26 = true := by kernel_rfl
theorem cl27 : callable Try.prog 27 = true := by kernel_rfl
theorem cl28 : callable Try.prog 28 = true := by kernel_rfl
theorem cl29 : callable Try.prog 29 = true := by kernel_rfl
theorem cl40 : callable Try.prog 40 = true := by kernel_rfl
theorem cl41 : callable Try.prog 41 = true := by kernel_rfl
theorem cl42 : callable Try.prog 42 = true := by kernel_rfl
theorem cl43 : callable Try.prog 43 = true := by kernel_rfl
theorem cl44 : callable Try.prog 44 = true := by kernel_rfl
theorem cl45 : callable Try.prog 45 = true := by kernel_rfl
theorem cl46 : callable Try.prog 46 = true := by kernel_rfl
theorem cl47 : callable Try.prog 47 = true := by kernel_rfl
theorem cl48 : callable Try.prog 48 = true := by kernel_rfl
theorem cl49 : callable Try.prog 49 = true := by kernel_rfl
theorem cl50 : callable Try.prog 50 = true := by kernel_rfl
theorem cl53 : callable Try.prog 53 = true := by kernel_rfl
theorem cl58 : callable Try.prog 58 = true := by kernel_rfl
theorem cl59 : callable Try.prog 59 = true := by kernel_rfl
theorem cl60 : callable Try.prog 60 = true := by kernel_rfl
theorem cl61 : callable Try.prog 61 = true := by kernel_rfl
theorem cl67 : callable Try.prog 67 = true := by kernel_rfl
theorem cl68 : callable Try.prog 68 = true := by kernel_rfl
theorem cl69 : callable Try.prog 69 = true := by kernel_rfl
theorem cl70 : callable Try.prog 70 = true := by kernel_rfl
theorem cl82 : callable Try.prog 82 = true := by kernel_rfl
theorem cl83 : callable Try.prog 83 = true := by kernel_rfl
theorem cl84 : callable Try.prog 84 = true := by kernel_rfl
theorem cl97 : callable Try.prog 97 = true := by kernel_rfl
theorem cl98 : callable Try.prog 98 = true := by kernel_rfl
theorem cl99 : callable Try.prog 99 = true := by kernel_rfl
theorem cl100 : callable Try.prog 100 = true := by kernel_rfl
theorem cl101 : callable Try.prog 101 = true := by kernel_rfl
theorem cl102 : callable Try.prog 102 = true := by kernel_rfl
theorem cl103 : callable Try.prog 103 = true := by kernel_rfl
theorem cl104 : callable Try.prog 104 = true := by kernel_rfl
theorem cl105 : callable Try.prog 105 = true := by kernel_rfl
theorem cl106 : callable Try.prog 106 = true := by kernel_rfl
theorem cl107 : callable Try.prog 107 = true := by kernel_rfl
theorem cl127 : callable Try.prog 127 = true := by kernel_rfl
theorem cl128 : callable Try.prog 128 = true := by kernel_rfl
theorem cl129 : callable Try.prog 129 = true := by kernel_rfl
theorem cl130 : callable Try.prog 130 = true := by kernel_rfl
theorem cl131 : callable Try.prog 131 = true := by kernel_rfl
theorem cl132 : callable Try.prog 132 = true := by kernel_rfl
theorem cl148 : callable Try.prog 148 = true := by kernel_rfl
theorem tz26 : tzero Try.prog 26 = some [.v (.string ⟨#[]⟩), .v (.string ⟨#[]⟩), .v (.string ⟨#[]⟩), .v (.string ⟨#[]⟩), .v (.string ⟨#[]⟩), .v (.int .i64 0), .v (.bool false), .v (.int .i64 0), .v (.int .i64 0), .v (.int .i64 0)] := by kernel_rfl
theorem tz32 : tzero Try.prog 32 = some [.nilS, .nilS, .nilS, .v (.int .i64 0), .v (.int .i64 0)] := by kernel_rfl
theorem tz38 : tzero Try.prog 38 = some [.v (.string ⟨#[]⟩), .v (.string ⟨#[]⟩), .v (.string ⟨#[]⟩), .v (.string ⟨#[]⟩), .v (.bool false), .v (.int .i64 0), .v (.int .i64 0), .v (.int .i64 0), .v (.bool false)] := by kernel_rfl
theorem tz40 : tzero Try.prog 40 = some [.v (.string ⟨#[]⟩), .v (.string ⟨#[]⟩), .v (.string ⟨#[]⟩), .v (.bool false), .v (.int .i64 0), .v (.int .i64 0), .v (.int .i64 0), .v (.bool false)] := by kernel_rfl
theorem bs26 : buildS Try.prog 26 = some [(0, 1), (1, 1), (2, 1), (3, 1), (4, 1), (5, 1), (6, 1), (7, 1), (8, 1), (9, 1)] := by kernel_rfl
theorem bs38 : buildS Try.prog 38 = some [(0, 1), (1, 1), (2, 1), (3, 1), (4, 1), (5, 1), (6, 1), (7, 1), (8, 1)] := by kernel_rfl
theorem bs40 : buildS Try.prog 40 = some [(0, 1), (1, 1), (2, 1), (3, 1), (4, 1), (5, 1), (6, 1), (7, 1)] := by kernel_rfl
theorem ud2 : Try.prog.underlying 2 = some (.int (Go.IntKind.i64)) := by kernel_rfl
theorem ud3 : Try.prog.underlying 3 = some (.int (Go.IntKind.i64)) := by kernel_rfl
theorem ud4 : Try.prog.underlying 4 = some (.bool) := by kernel_rfl
theorem ud5 : Try.prog.underlying 5 = some (.int (Go.IntKind.u8)) := by kernel_rfl
theorem ud9 : Try.prog.underlying 9 = some (.string) := by kernel_rfl
theorem ud22 : Try.prog.underlying 22 = some (.slice 26) := by kernel_rfl
theorem ud23 : Try.prog.underlying 23 = some (.slice 5) := by kernel_rfl
theorem ud28 : Try.prog.underlying 28 = some (.slice 40) := by kernel_rfl
theorem ud29 : Try.prog.underlying 29 = some (.slice 38) := by kernel_rfl
theorem ud30 : Try.prog.underlying 30 = some (.slice 9) := by kernel_rfl
theorem ud110 : Try.prog.underlying 110 = some (.int (Go.IntKind.i64)) := by kernel_rfl
attribute [go_sem] ld2 ld3 ld4 ld5 ld9 ld26 ld28 ld29 ld30 ld32 ld38 ld40 fi26_0 fi26_1 fi26_2 fi26_3 fi26_4 fi26_5 fi26_6 fi26_7 fi26_8 fi26_9 fi32_0 fi32_1 fi32_2 fi32_3 fi32_4 fi38_0 fi38_1 fi38_2 fi38_3 fi38_4 fi38_5 fi38_6 fi38_7 fi38_8 fi40_0 fi40_1 fi40_2 fi40_3 fi40_4 fi40_5 fi40_6 fi40_7 ix22 ix23 ix28 ix29 ix30 ap22 ap28 ap29 ap30 sz2 sz3 sz4 sz5 sz9 sz26 sz28 sz29 sz30 sz32 sz38 sz40 sr22 sr28 sr29 sr30 fk26 fk38 fk40 cl15 cl16 cl17 cl21 cl26 cl27 cl28 cl29 cl40 cl41 cl42 cl43 cl44 cl45 cl46 cl47 cl48 cl49 cl50 cl53 cl58 cl59 cl60 cl61 cl67 cl68 cl69 cl70 cl82 cl83 cl84 cl97 cl98 cl99 cl100 cl101 cl102 cl103 cl104 cl105 cl106 cl107 cl127 cl128 cl129 cl130 cl131 cl132 cl148 tz26 tz32 tz38 tz40 bs26 bs38 bs40 ud2 ud3 ud4 ud5 ud9 ud22 ud23 ud28 ud29 ud30 ud110
end Go.Proofs.Ytlhdnenlgceeeaa
