/- Closed facts on the types and functions that the code names, for the abstract layer; made by program. -/
import Derived.Test.YtobaignbahnjbaaDoorRows
import Derived.Test.YtobaignbahnjbaaDoorLn
namespace Go.Proofs.YtobaignbahnjbaaDoor
open Go Go.Abs

theorem ld2 : loadInfo Tryd.prog 2 = some (false, 1) := by kernel_rfl
theorem ld3 : loadInfo Tryd.prog 3 = some (false, 1) := by kernel_rfl
theorem ld4 : loadInfo Tryd.prog 4 = some (false, 1) := by kernel_rfl
theorem ld5 : loadInfo Tryd.prog 5 = some (false, 1) := by kernel_rfl
theorem ld9 : loadInfo Tryd.prog 9 = some (false, 1) := by kernel_rfl
theorem ld23 : loadInfo Tryd.prog 23 = some (true, 10) := by kernel_rfl
theorem ld25 : loadInfo Tryd.prog 25 = some (true, 18) := by kernel_rfl
theorem ld42 : loadInfo Tryd.prog 42 = some (false, 1) := by kernel_rfl
theorem ld46 : loadInfo Tryd.prog 46 = some (true, 2) := by kernel_rfl
theorem ld48 : loadInfo Tryd.prog 48 = some (false, 1) := by kernel_rfl
theorem fi23_0 : fieldInfo Tryd.prog 23 0 = some (0, 9, 1) := by kernel_rfl
theorem fi23_1 : fieldInfo Tryd.prog 23 1 = some (1, 9, 1) := by kernel_rfl
theorem fi23_2 : fieldInfo Tryd.prog 23 2 = some (2, 9, 1) := by kernel_rfl
theorem fi23_3 : fieldInfo Tryd.prog 23 3 = some (3, 9, 1) := by kernel_rfl
theorem fi23_4 : fieldInfo Tryd.prog 23 4 = some (4, 9, 1) := by kernel_rfl
theorem fi23_5 : fieldInfo Tryd.prog 23 5 = some (5, 3, 1) := by kernel_rfl
theorem fi23_6 : fieldInfo Tryd.prog 23 6 = some (6, 4, 1) := by kernel_rfl
theorem fi23_7 : fieldInfo Tryd.prog 23 7 = some (7, 2, 1) := by kernel_rfl
theorem fi23_8 : fieldInfo Tryd.prog 23 8 = some (8, 2, 1) := by kernel_rfl
theorem fi23_9 : fieldInfo Tryd.prog 23 9 = some (9, 2, 1) := by kernel_rfl
theorem fi25_0 : fieldInfo Tryd.prog 25 0 = some (0, 3, 1) := by kernel_rfl
theorem fi25_1 : fieldInfo Tryd.prog 25 1 = some (1, 2, 1) := by kernel_rfl
theorem fi25_2 : fieldInfo Tryd.prog 25 2 = some (2, 2, 1) := by kernel_rfl
theorem fi25_3 : fieldInfo Tryd.prog 25 3 = some (3, 4, 1) := by kernel_rfl
theorem fi25_4 : fieldInfo Tryd.prog 25 4 = some (4, 2, 1) := by kernel_rfl
theorem fi25_5 : fieldInfo Tryd.prog 25 5 = some (5, 2, 1) := by kernel_rfl
theorem fi25_6 : fieldInfo Tryd.prog 25 6 = some (6, 4, 1) := by kernel_rfl
theorem fi25_7 : fieldInfo Tryd.prog 25 7 = some (7, 9, 1) := by kernel_rfl
theorem fi25_8 : fieldInfo Tryd.prog 25 8 = some (8, 23, 10) := by kernel_rfl
theorem fi46_0 : fieldInfo Tryd.prog 46 0 = some (0, 3, 1) := by kernel_rfl
theorem fi46_1 : fieldInfo Tryd.prog 46 1 = some (1, 9, 1) := by kernel_rfl
theorem fi63_0 : fieldInfo Tryd.prog 63 0 = some (0, 42, 1) := by kernel_rfl
theorem fi63_1 : fieldInfo Tryd.prog 63 1 = some (1, 3, 1) := by kernel_rfl
theorem fi63_2 : fieldInfo Tryd.prog 63 2 = some (2, 4, 1) := by kernel_rfl
theorem ix28 : idxInfo Tryd.prog 28 = some (none, 5, 1) := by kernel_rfl
theorem ix42 : idxInfo Tryd.prog 42 = some (none, 46, 2) := by kernel_rfl
theorem ix53 : idxInfo Tryd.prog 53 = some (some 7, 9, 1) := by kernel_rfl
theorem ap28 : appInfo Tryd.prog 28 = some (5, 1, 1) := by kernel_rfl
theorem ap42 : appInfo Tryd.prog 42 = some (46, 2, 24) := by kernel_rfl
theorem ap48 : appInfo Tryd.prog 48 = some (46, 2, 24) := by kernel_rfl
theorem sz2 : tsz Tryd.prog 2 = some 1 := by kernel_rfl
theorem sz3 : tsz Tryd.prog 3 = some 1 := by kernel_rfl
theorem sz4 : tsz Tryd.prog 4 = some 1 := by kernel_rfl
theorem sz5 : tsz Tryd.prog 5 = some 1 := by kernel_rfl
theorem sz9 : tsz Tryd.prog 9 = some 1 := by kernel_rfl
theorem sz23 : tsz Tryd.prog 23 = some 10 := by kernel_rfl
theorem sz25 : tsz Tryd.prog 25 = some 18 := by kernel_rfl
theorem sz46 : tsz Tryd.prog 46 = some 2 := by kernel_rfl
theorem sz48 : tsz Tryd.prog 48 = some 1 := by kernel_rfl
theorem sz53 : tsz Tryd.prog 53 = some 7 := by kernel_rfl
theorem sz63 : tsz Tryd.prog 63 = some 3 := by kernel_rfl
theorem sr9 : srcTy Tryd.prog 9 = true := by kernel_rfl
theorem sr28 : srcTy Tryd.prog 28 = true := by kernel_rfl
theorem sr42 : srcTy Tryd.prog 42 = true := by kernel_rfl
theorem sr48 : srcTy Tryd.prog 48 = true := by kernel_rfl
theorem fk23 : flatKinds Tryd.prog 23 = some [1, 1, 1, 1, 1, 0, 2, 0, 0, 0] := by kernel_rfl
theorem fk25 : flatKinds Tryd.prog 25 = some [0, 0, 0, 2, 0, 0, 2, 1, 1, 1, 1, 1, 1, 0, 2, 0, 0, 0] := by kernel_rfl
theorem cl7 : callable Tryd.prog 7 = true := by kernel_rfl
theorem cl8 : callable Tryd.prog 8 = true := by kernel_rfl
theorem cl9 : callable Tryd.prog 9 = true := by kernel_rfl
theorem cl10 : callable Tryd.prog 10 = true := by kernel_rfl
theorem cl11 : callable Tryd.prog 11 = true := by kernel_rfl
theorem cl12 : callable Tryd.prog 12 = true := by kernel_rfl
theorem cl13 : callable Tryd.prog 13 = true := by kernel_rfl
theorem cl14 : callable Tryd.prog 14 = true := by kernel_rfl
theorem cl15 : callable Tryd.prog 15 = true := by kernel_rfl
theorem cl16 : callable Tryd.prog 16 = true := by kernel_rfl
theorem cl17 : callable Tryd.prog 17 = true := by kernel_rfl
theorem cl18 : callable Tryd.prog 18 = true := by kernel_rfl
theorem cl19 : callable Tryd.prog 19 = true := by kernel_rfl
theorem cl20 : callable Tryd.prog 20 = true := by kernel_rfl
theorem cl21 : callable Tryd.prog 21 = true := by kernel_rfl
theorem cl22 : callable Tryd.prog 22 = true := by kernel_rfl
theorem cl23 : callable Tryd.prog 23 = true := by kernel_rfl
theorem cl24 : callable Tryd.prog 24 = true := by kernel_rfl
theorem cl25 : callable Tryd.prog 25 = true := by kernel_rfl
theorem cl26 : callable Tryd.prog 26 = true := by kernel_rfl
theorem cl27 : callable Tryd.prog 27 = true := by kernel_rfl
theorem cl28 : callable Tryd.prog 28 = true := by kernel_rfl
theorem cl29 : callable Tryd.prog 29 = true := by kernel_rfl
theorem cl30 : callable Tryd.prog 30 = true := by kernel_rfl
theorem cl31 : callable Tryd.prog 31 = true := by kernel_rfl
theorem cl32 : callable Tryd.prog 32 = true := by kernel_rfl
theorem cl33 : callable Tryd.prog 33 = true := by kernel_rfl
theorem cl34 : callable Tryd.prog 34 = true := by kernel_rfl
theorem cl35 : callable Tryd.prog 35 = true := by kernel_rfl
theorem cl36 : callable Tryd.prog 36 = true := by kernel_rfl
theorem cl37 : callable Tryd.prog 37 = true := by kernel_rfl
theorem cl38 : callable Tryd.prog 38 = true := by kernel_rfl
theorem cl39 : callable Tryd.prog 39 = true := by kernel_rfl
theorem cl40 : callable Tryd.prog 40 = true := by kernel_rfl
theorem cl41 : callable Tryd.prog 41 = true := by kernel_rfl
theorem cl42 : callable Tryd.prog 42 = true := by kernel_rfl
theorem cl43 : callable Tryd.prog 43 = true := by kernel_rfl
theorem cl44 : callable Tryd.prog 44 = true := by kernel_rfl
theorem cl45 : callable Tryd.prog 45 = true := by kernel_rfl
theorem cl46 : callable Tryd.prog 46 = true := by kernel_rfl
theorem cl47 : callable Tryd.prog 47 = true := by kernel_rfl
theorem cl48 : callable Tryd.prog 48 = true := by kernel_rfl
theorem cl49 : callable Tryd.prog 49 = true := by kernel_rfl
theorem cl50 : callable Tryd.prog 50 = true := by kernel_rfl
theorem cl51 : callable Tryd.prog 51 = true := by kernel_rfl
theorem cl52 : callable Tryd.prog 52 = true := by kernel_rfl
theorem cl54 : callable Tryd.prog 54 = true := by kernel_rfl
theorem cl55 : callable Tryd.prog 55 = true := by kernel_rfl
theorem cl56 : callable Tryd.prog 56 = true := by kernel_rfl
theorem cl57 : callable Tryd.prog 57 = true := by kernel_rfl
theorem cl58 : callable Tryd.prog 58 = true := by kernel_rfl
theorem cl61 : callable Tryd.prog 61 = true := by kernel_rfl
theorem cl62 : callable Tryd.prog 62 = true := by kernel_rfl
theorem tz23 : tzero Tryd.prog 23 = some [.v (.string ⟨#[]⟩), .v (.string ⟨#[]⟩), .v (.string ⟨#[]⟩), .v (.string ⟨#[]⟩), .v (.string ⟨#[]⟩), .v (.int .i64 0), .v (.bool false), .v (.int .i64 0), .v (.int .i64 0), .v (.int .i64 0)] := by kernel_rfl
theorem tz25 : tzero Tryd.prog 25 = some [.v (.int .i64 0), .v (.int .i64 0), .v (.int .i64 0), .v (.bool false), .v (.int .i64 0), .v (.int .i64 0), .v (.bool false), .v (.string ⟨#[]⟩), .v (.string ⟨#[]⟩), .v (.string ⟨#[]⟩), .v (.string ⟨#[]⟩), .v (.string ⟨#[]⟩), .v (.string ⟨#[]⟩), .v (.int .i64 0), .v (.bool false), .v (.int .i64 0), .v (.int .i64 0), .v (.int .i64 0)] := by kernel_rfl
theorem tz46 : tzero Tryd.prog 46 = some [.v (.int .i64 0), .v (.string ⟨#[]⟩)] := by kernel_rfl
theorem tz48 : tzero Tryd.prog 48 = some [.nilS] := by kernel_rfl
theorem tz53 : tzero Tryd.prog 53 = some [.v (.string ⟨#[]⟩), .v (.string ⟨#[]⟩), .v (.string ⟨#[]⟩), .v (.string ⟨#[]⟩), .v (.string ⟨#[]⟩), .v (.string ⟨#[]⟩), .v (.string ⟨#[]⟩)] := by kernel_rfl
theorem tz63 : tzero Tryd.prog 63 = some [.nilS, .v (.int .i64 0), .v (.bool false)] := by kernel_rfl
theorem bs23 : buildS Tryd.prog 23 = some [(0, 1), (1, 1), (2, 1), (3, 1), (4, 1), (5, 1), (6, 1), (7, 1), (8, 1), (9, 1)] := by kernel_rfl
theorem bs25 : buildS Tryd.prog 25 = some [(0, 1), (1, 1), (2, 1), (3, 1), (4, 1), (5, 1), (6, 1), (7, 1), (8, 10)] := by kernel_rfl
theorem bs46 : buildS Tryd.prog 46 = some [(0, 1), (1, 1)] := by kernel_rfl
theorem bs53 : buildS Tryd.prog 53 = none := by kernel_rfl
theorem ba53 : buildA Tryd.prog 53 = some 1 := by kernel_rfl
theorem bs63 : buildS Tryd.prog 63 = some [(0, 1), (1, 1), (2, 1)] := by kernel_rfl
theorem ud2 : Tryd.prog.underlying 2 = some (.int (Go.IntKind.i64)) := by kernel_rfl
theorem ud3 : Tryd.prog.underlying 3 = some (.int (Go.IntKind.i64)) := by kernel_rfl
theorem ud4 : Tryd.prog.underlying 4 = some (.bool) := by kernel_rfl
theorem ud5 : Tryd.prog.underlying 5 = some (.int (Go.IntKind.u8)) := by kernel_rfl
theorem ud9 : Tryd.prog.underlying 9 = some (.string) := by kernel_rfl
theorem ud21 : Tryd.prog.underlying 21 = some (.int (Go.IntKind.i32)) := by kernel_rfl
theorem ud28 : Tryd.prog.underlying 28 = some (.slice 5) := by kernel_rfl
theorem ud29 : Tryd.prog.underlying 29 = some (.int (Go.IntKind.i64)) := by kernel_rfl
theorem ud42 : Tryd.prog.underlying 42 = some (.slice 46) := by kernel_rfl
theorem ud48 : Tryd.prog.underlying 48 = some (.slice 46) := by kernel_rfl
theorem ud53 : Tryd.prog.underlying 53 = some (.array 7 9) := by kernel_rfl
theorem ud86 : Tryd.prog.underlying 86 = some (.int (Go.IntKind.u64)) := by kernel_rfl
attribute [go_sem] ld2 ld3 ld4 ld5 ld9 ld23 ld25 ld42 ld46 ld48 fi23_0 fi23_1 fi23_2 fi23_3 fi23_4 fi23_5 fi23_6 fi23_7 fi23_8 fi23_9 fi25_0 fi25_1 fi25_2 fi25_3 fi25_4 fi25_5 fi25_6 fi25_7 fi25_8 fi46_0 fi46_1 fi63_0 fi63_1 fi63_2 ix28 ix42 ix53 ap28 ap42 ap48 sz2 sz3 sz4 sz5 sz9 sz23 sz25 sz46 sz48 sz53 sz63 sr9 sr28 sr42 sr48 fk23 fk25 cl7 cl8 cl9 cl10 cl11 cl12 cl13 cl14 cl15 cl16 cl17 cl18 cl19 cl20 cl21 cl22 cl23 cl24 cl25 cl26 cl27 cl28 cl29 cl30 cl31 cl32 cl33 cl34 cl35 cl36 cl37 cl38 cl39 cl40 cl41 cl42 cl43 cl44 cl45 cl46 cl47 cl48 cl49 cl50 cl51 cl52 cl54 cl55 cl56 cl57 cl58 cl61 cl62 tz23 tz25 tz46 tz48 tz53 tz63 bs23 bs25 bs46 bs53 ba53 bs63 ud2 ud3 ud4 ud5 ud9 ud21 ud28 ud29 ud42 ud48 ud53 ud86
end Go.Proofs.YtobaignbahnjbaaDoor
