/- Closed facts on the types and functions that the code names, for the abstract layer; made by program. -/
import Derived.Test.YtajeeghgiilhiaaRows
import Derived.Test.YtajeeghgiilhiaaLd
namespace Go.Proofs.Ytajeeghgiilhiaa
open Go Go.Abs

theorem ld2 : loadInfo Try.prog 2 = some (false, 1) := by kernel_rfl
theorem ld3 : loadInfo Try.prog 3 = some (false, 1) := by kernel_rfl
theorem ld4 : loadInfo Try.prog 4 = some (false, 1) := by kernel_rfl
theorem ld9 : loadInfo Try.prog 9 = some (false, 1) := by kernel_rfl
theorem ld22 : loadInfo Try.prog 22 = some (false, 1) := by kernel_rfl
theorem ld32 : loadInfo Try.prog 32 = some (true, 9) := by kernel_rfl
theorem ld33 : loadInfo Try.prog 33 = some (false, 1) := by kernel_rfl
theorem ld34 : loadInfo Try.prog 34 = some (false, 1) := by kernel_rfl
theorem ld35 : loadInfo Try.prog 35 = some (false, 1) := by kernel_rfl
theorem ld37 : loadInfo Try.prog 37 = some (true, 5) := by kernel_rfl
theorem ld41 : loadInfo Try.prog 41 = some (true, 5) := by kernel_rfl
theorem ld44 : loadInfo Try.prog 44 = some (true, 2) := by kernel_rfl
theorem ld63 : loadInfo Try.prog 63 = some (true, 8) := by kernel_rfl
theorem ld78 : loadInfo Try.prog 78 = some (true, 2) := by kernel_rfl
theorem ld125 : loadInfo Try.prog 125 = some (false, 1) := by kernel_rfl
theorem fi32_0 : fieldInfo Try.prog 32 0 = some (0, 9, 1) := by kernel_rfl
theorem fi32_2 : fieldInfo Try.prog 32 2 = some (2, 9, 1) := by kernel_rfl
theorem fi32_3 : fieldInfo Try.prog 32 3 = some (3, 9, 1) := by kernel_rfl
theorem fi32_4 : fieldInfo Try.prog 32 4 = some (4, 4, 1) := by kernel_rfl
theorem fi32_5 : fieldInfo Try.prog 32 5 = some (5, 2, 1) := by kernel_rfl
theorem fi32_6 : fieldInfo Try.prog 32 6 = some (6, 2, 1) := by kernel_rfl
theorem fi32_7 : fieldInfo Try.prog 32 7 = some (7, 2, 1) := by kernel_rfl
theorem fi32_8 : fieldInfo Try.prog 32 8 = some (8, 4, 1) := by kernel_rfl
theorem fi37_0 : fieldInfo Try.prog 37 0 = some (0, 35, 1) := by kernel_rfl
theorem fi37_1 : fieldInfo Try.prog 37 1 = some (1, 33, 1) := by kernel_rfl
theorem fi37_2 : fieldInfo Try.prog 37 2 = some (2, 34, 1) := by kernel_rfl
theorem fi37_3 : fieldInfo Try.prog 37 3 = some (3, 2, 1) := by kernel_rfl
theorem fi37_4 : fieldInfo Try.prog 37 4 = some (4, 3, 1) := by kernel_rfl
theorem fi41_0 : fieldInfo Try.prog 41 0 = some (0, 9, 1) := by kernel_rfl
theorem fi41_1 : fieldInfo Try.prog 41 1 = some (1, 9, 1) := by kernel_rfl
theorem fi41_2 : fieldInfo Try.prog 41 2 = some (2, 2, 1) := by kernel_rfl
theorem fi41_3 : fieldInfo Try.prog 41 3 = some (3, 2, 1) := by kernel_rfl
theorem fi41_4 : fieldInfo Try.prog 41 4 = some (4, 4, 1) := by kernel_rfl
theorem fi44_0 : fieldInfo Try.prog 44 0 = some (0, 2, 1) := by kernel_rfl
theorem fi44_1 : fieldInfo Try.prog 44 1 = some (1, 2, 1) := by kernel_rfl
theorem fi63_0 : fieldInfo Try.prog 63 0 = some (0, 9, 1) := by kernel_rfl
theorem fi63_1 : fieldInfo Try.prog 63 1 = some (1, 9, 1) := by kernel_rfl
theorem fi63_2 : fieldInfo Try.prog 63 2 = some (2, 9, 1) := by kernel_rfl
theorem fi63_3 : fieldInfo Try.prog 63 3 = some (3, 4, 1) := by kernel_rfl
theorem fi63_4 : fieldInfo Try.prog 63 4 = some (4, 2, 1) := by kernel_rfl
theorem fi63_5 : fieldInfo Try.prog 63 5 = some (5, 2, 1) := by kernel_rfl
theorem fi63_6 : fieldInfo Try.prog 63 6 = some (6, 2, 1) := by kernel_rfl
theorem fi63_7 : fieldInfo Try.prog 63 7 = some (7, 4, 1) := by kernel_rfl
theorem fi78_0 : fieldInfo Try.prog 78 0 = some (0, 9, 1) := by kernel_rfl
theorem fi78_1 : fieldInfo Try.prog 78 1 = some (1, 9, 1) := by kernel_rfl
theorem ix22 : idxInfo Try.prog 22 = some (none, 41, 5) := by kernel_rfl
theorem ix25 : idxInfo Try.prog 25 = some (none, 22, 1) := by kernel_rfl
theorem ix33 : idxInfo Try.prog 33 = some (none, 32, 9) := by kernel_rfl
theorem ix34 : idxInfo Try.prog 34 = some (none, 9, 1) := by kernel_rfl
theorem ix35 : idxInfo Try.prog 35 = some (none, 63, 8) := by kernel_rfl
theorem ix76 : idxInfo Try.prog 76 = some (none, 78, 2) := by kernel_rfl
theorem ix84 : idxInfo Try.prog 84 = some (none, 2, 1) := by kernel_rfl
theorem ix100 : idxInfo Try.prog 100 = some (none, 3, 1) := by kernel_rfl
theorem ap22 : appInfo Try.prog 22 = some (41, 5, 56) := by kernel_rfl
theorem ap25 : appInfo Try.prog 25 = some (22, 1, 24) := by kernel_rfl
theorem ap33 : appInfo Try.prog 33 = some (32, 9, 104) := by kernel_rfl
theorem ap34 : appInfo Try.prog 34 = some (9, 1, 16) := by kernel_rfl
theorem ap35 : appInfo Try.prog 35 = some (63, 8, 88) := by kernel_rfl
theorem ap76 : appInfo Try.prog 76 = some (78, 2, 32) := by kernel_rfl
theorem ap84 : appInfo Try.prog 84 = some (2, 1, 8) := by kernel_rfl
theorem ap100 : appInfo Try.prog 100 = some (3, 1, 8) := by kernel_rfl
theorem sz2 : tsz Try.prog 2 = some 1 := by kernel_rfl
theorem sz3 : tsz Try.prog 3 = some 1 := by kernel_rfl
theorem sz4 : tsz Try.prog 4 = some 1 := by kernel_rfl
theorem sz9 : tsz Try.prog 9 = some 1 := by kernel_rfl
theorem sz22 : tsz Try.prog 22 = some 1 := by kernel_rfl
theorem sz32 : tsz Try.prog 32 = some 9 := by kernel_rfl
theorem sz33 : tsz Try.prog 33 = some 1 := by kernel_rfl
theorem sz34 : tsz Try.prog 34 = some 1 := by kernel_rfl
theorem sz35 : tsz Try.prog 35 = some 1 := by kernel_rfl
theorem sz37 : tsz Try.prog 37 = some 5 := by kernel_rfl
theorem sz41 : tsz Try.prog 41 = some 5 := by kernel_rfl
theorem sz44 : tsz Try.prog 44 = some 2 := by kernel_rfl
theorem sz63 : tsz Try.prog 63 = some 8 := by kernel_rfl
theorem sz78 : tsz Try.prog 78 = some 2 := by kernel_rfl
theorem sz125 : tsz Try.prog 125 = some 1 := by kernel_rfl
theorem sr22 : srcTy Try.prog 22 = true := by kernel_rfl
theorem sr33 : srcTy Try.prog 33 = true := by kernel_rfl
theorem sr34 : srcTy Try.prog 34 = true := by kernel_rfl
theorem sr35 : srcTy Try.prog 35 = true := by kernel_rfl
theorem sr76 : srcTy Try.prog 76 = true := by kernel_rfl
theorem sr84 : srcTy Try.prog 84 = true := by kernel_rfl
theorem fk41 : flatKinds Try.prog 41 = some [1, 1, 0, 0, 2] := by kernel_rfl
theorem fk44 : flatKinds Try.prog 44 = some [0, 0] := by kernel_rfl
theorem fk78 : flatKinds Try.prog 78 = some [1, 1] := by kernel_rfl
theorem cl4 : callable Try.prog 4 = true := by kernel_rfl
theorem cl5 : callable Try.prog 5 = true := by kernel_rfl
theorem cl6 : callable Try.prog 6 = true := by kernel_rfl
theorem cl7 : callable Try.prog 7 = true := by kernel_rfl
theorem cl8 : callable Try.prog 8 = true := by kernel_rfl
theorem cl9 : callable Try.prog 9 = true := by kernel_rfl
theorem cl10 : callable Try.prog 10 = true := by kernel_rfl
theorem cl11 : callable Try.prog 11 = true := by kernel_rfl
theorem cl12 : callable Try.prog 12 = true := by kernel_rfl
theorem cl13 : callable Try.prog 13 = true := by kernel_rfl
theorem cl14 : callable Try.prog 14 = true := by kernel_rfl
theorem cl15 : callable Try.prog 15 = true := by kernel_rfl
theorem cl16 : callable Try.prog 16 = true := by kernel_rfl
theorem cl17 : callable Try.prog 17 = true := by kernel_rfl
theorem cl18 : callable Try.prog 18 = true := by kernel_rfl
theorem cl19 : callable Try.prog 19 = true := by kernel_rfl
theorem cl20 : callable Try.prog 20 = true := by kernel_rfl
theorem cl21 : callable Try.prog 21 = true := by kernel_rfl
theorem cl22 : callable Try.prog 22 = true := by kernel_rfl
theorem cl23 : callable Try.prog 23 = true := by kernel_rfl
theorem cl24 : callable Try.prog 24 = true := by kernel_rfl
theorem cl25 : callable Try.prog 25 = true := by kernel_rfl
theorem cl27 : callable Try.prog 27 = true := by kernel_rfl
theorem cl28 : callable Try.prog 28 = true := by kernel_rfl
theorem cl29 : callable Try.prog 29 = true := by kernel_rfl
theorem cl30 : callable Try.prog 30 = true := by kernel_rfl
theorem cl31 : callable Try.prog 31 = true := by kernel_rfl
theorem cl32 : callable Try.prog 32 = true := by kernel_rfl
theorem cl33 : callable Try.prog 33 = true := by kernel_rfl
theorem cl34 : callable Try.prog 34 = true := by kernel_rfl
theorem cl35 : callable Try.prog 35 = true := by kernel_rfl
theorem cl36 : callable Try.prog 36 = true := by kernel_rfl
theorem cl37 : callable Try.prog 37 = true := by kernel_rfl
theorem cl38 : callable Try.prog 38 = true := by kernel_rfl
theorem cl40 : callable Try.prog 40 = true := by kernel_rfl
theorem cl41 : callable Try.prog 41 = true := by kernel_rfl
theorem cl42 : callable Try.prog 42 = true := by kernel_rfl
theorem cl43 : callable Try.prog 43 = true := by kernel_rfl
theorem cl44 : callable Try.prog 44 = true := by kernel_rfl
theorem cl45 : callable Try.prog 45 = true := by kernel_rfl
theorem cl46 : callable Try.prog 46 = true := by kernel_rfl
theorem cl47 : callable Try.prog 47 = true := by kernel_rfl
theorem cl48 : callable Try.prog 48 = true := by kernel_rfl
theorem cl49 : callable Try.prog 49 = true := by kernel_rfl
theorem cl50 : callable Try.prog 50 = true := by kernel_rfl
theorem cl51 : callable Try.prog 51 = true := by kernel_rfl
theorem cl52 : callable Try.prog 52 = true := by kernel_rfl
theorem cl53 : callable Try.prog 53 = true := by kernel_rfl
theorem cl54 : callable Try.prog 54 = true := by kernel_rfl
theorem cl55 : callable Try.prog 55 = true := by kernel_rfl
theorem cl56 : callable Try.prog 56 = true := by kernel_rfl
theorem cl57 : callable Try.prog 57 = true := by kernel_rfl
theorem cl58 : callable Try.prog 58 = true := by kernel_rfl
theorem cl59 : callable Try.prog 59 = true := by kernel_rfl
theorem cl60 : callable Try.prog 60 = true := by kernel_rfl
theorem cl61 : callable Try.prog 61 = true := by kernel_rfl
theorem cl63 : callable Try.prog 63 = true := by kernel_rfl
theorem cl64 : callable Try.prog 64 = true := by kernel_rfl
theorem cl65 : callable Try.prog 65 = true := by kernel_rfl
theorem cl66 : callable Try.prog 66 = true := by kernel_rfl
theorem cl67 : callable Try.prog 67 = true := by kernel_rfl
theorem cl68 : callable Try.prog 68 = true := by kernel_rfl
theorem cl69 : callable Try.prog 69 = true := by kernel_rfl
theorem cl70 : callable Try.prog 70 = true := by kernel_rfl
theorem cl71 : callable Try.prog 71 = true := by kernel_rfl
theorem cl72 : callable Try.prog 72 = true := by kernel_rfl
theorem cl73 : callable Try.prog 73 = true := by kernel_rfl
theorem cl74 : callable Try.prog 74 = true := by kernel_rfl
theorem cl75 : callable Try.prog 75 = true := by kernel_rfl
theorem cl76 : callable Try.prog 76 = true := by kernel_rfl
theorem cl77 : callable Try.prog 77 = true := by kernel_rfl
theorem cl80 : callable Try.prog 80 = true := by kernel_rfl
theorem cl81 : callable Try.prog 81 = true := by kernel_rfl
theorem cl82 : callable Try.prog 82 = true := by kernel_rfl
theorem cl83 : callable Try.prog 83 = true := by kernel_rfl
theorem cl84 : callable Try.prog 84 = true := by kernel_rfl
theorem cl85 : callable Try.prog 85 = true := by kernel_rfl
theorem cl86 : callable Try.prog 86 = true := by kernel_rfl
theorem cl87 : callable Try.prog 87 = true := by kernel_rfl
theorem cl88 : callable Try.prog 88 = true := by kernel_rfl
theorem cl89 : callable Try.prog 89 = true := by kernel_rfl
theorem cl90 : callable Try.prog 90 = true := by kernel_rfl
theorem cl91 : callable Try.prog 91 = true := by kernel_rfl
theorem cl92 : callable Try.prog 92 = true := by kernel_rfl
theorem cl93 : callable Try.prog 93 = true := by kernel_rfl
theorem cl94 : callable Try.prog 94 = true := by kernel_rfl
theorem cl95 : callable Try.prog 95 = true := by kernel_rfl
theorem cl96 : callable Try.prog 96 = true := by kernel_rfl
theorem cl97 : callable Try.prog 97 = true := by kernel_rfl
theorem cl98 : callable Try.prog 98 = true := by kernel_rfl
theorem cl99 : callable Try.prog 99 = true := by kernel_rfl
theorem tz3 : tzero Try.prog 3 = some [.v (.int .i64 0)] := by kernel_rfl
theorem tz32 : tzero Try.prog 32 = some [.v (.string ⟨#[]⟩), .v (.string ⟨#[]⟩), .v (.string ⟨#[]⟩), .v (.string ⟨#[]⟩), .v (.bool false), .v (.int .i64 0), .v (.int .i64 0), .v (.int .i64 0), .v (.bool false)] := by kernel_rfl
theorem tz37 : tzero Try.prog 37 = some [.nilS, .nilS, .nilS, .v (.int .i64 0), .v (.int .i64 0)] := by kernel_rfl
theorem tz41 : tzero Try.prog 41 = some [.v (.string ⟨#[]⟩), .v (.string ⟨#[]⟩), .v (.int .i64 0), .v (.int .i64 0), .v (.bool false)] := by kernel_rfl
theorem tz44 : tzero Try.prog 44 = some [.v (.int .i64 0), .v (.int .i64 0)] := by kernel_rfl
theorem tz63 : tzero Try.prog 63 = some [.v (.string ⟨#[]⟩), .v (.string ⟨#[]⟩), .v (.string ⟨#[]⟩), .v (.bool false), .v (.int .i64 0), .v (.int .i64 0), .v (.int .i64 0), .v (.bool false)] := by kernel_rfl
theorem tz78 : tzero Try.prog 78 = some [.v (.string ⟨#[]⟩), .v (.string ⟨#[]⟩)] := by kernel_rfl
theorem tz125 : tzero Try.prog 125 = some [.v (.int .u64 0)] := by kernel_rfl
theorem bs32 : buildS Try.prog 32 = some [(0, 1), (1, 1), (2, 1), (3, 1), (4, 1), (5, 1), (6, 1), (7, 1), (8, 1)] := by kernel_rfl
theorem bs37 : buildS Try.prog 37 = some [(0, 1), (1, 1), (2, 1), (3, 1), (4, 1)] := by kernel_rfl
theorem bs41 : buildS Try.prog 41 = some [(0, 1), (1, 1), (2, 1), (3, 1), (4, 1)] := by kernel_rfl
theorem bs44 : buildS Try.prog 44 = some [(0, 1), (1, 1)] := by kernel_rfl
theorem bs78 : buildS Try.prog 78 = some [(0, 1), (1, 1)] := by kernel_rfl
theorem ud2 : Try.prog.underlying 2 = some (.int (Go.IntKind.i64)) := by kernel_rfl
theorem ud3 : Try.prog.underlying 3 = some (.int (Go.IntKind.i64)) := by kernel_rfl
theorem ud4 : Try.prog.underlying 4 = some (.bool) := by kernel_rfl
theorem ud9 : Try.prog.underlying 9 = some (.string) := by kernel_rfl
theorem ud22 : Try.prog.underlying 22 = some (.slice 41) := by kernel_rfl
theorem ud25 : Try.prog.underlying 25 = some (.slice 22) := by kernel_rfl
theorem ud26 : Try.prog.underlying 26 = some (.int (Go.IntKind.i64)) := by kernel_rfl
theorem ud33 : Try.prog.underlying 33 = some (.slice 32) := by kernel_rfl
theorem ud34 : Try.prog.underlying 34 = some (.slice 9) := by kernel_rfl
theorem ud35 : Try.prog.underlying 35 = some (.slice 63) := by kernel_rfl
theorem ud76 : Try.prog.underlying 76 = some (.slice 78) := by kernel_rfl
theorem ud84 : Try.prog.underlying 84 = some (.slice 2) := by kernel_rfl
theorem ud95 : Try.prog.underlying 95 = some (.int (Go.IntKind.u64)) := by kernel_rfl
theorem ud100 : Try.prog.underlying 100 = some (.slice 3) := by kernel_rfl
theorem ud101 : Try.prog.underlying 101 = some (.int (Go.IntKind.u64)) := by kernel_rfl
theorem ud111 : Try.prog.underlying 111 = some (.int (Go.IntKind.i64)) := by kernel_rfl
theorem ud125 : Try.prog.underlying 125 = some (.int (Go.IntKind.u64)) := by kernel_rfl
attribute [go_sem] ld2 ld3 ld4 ld9 ld22 ld32 ld33 ld34 ld35 ld37 ld41 ld44 ld63 ld78 ld125 fi32_0 fi32_2 fi32_3 fi32_4 fi32_5 fi32_6 fi32_7 fi32_8 fi37_0 fi37_1 fi37_2 fi37_3 fi37_4 fi41_0 fi41_1 fi41_2 fi41_3 fi41_4 fi44_0 fi44_1 fi63_0 fi63_1 fi63_2 fi63_3 fi63_4 fi63_5 fi63_6 fi63_7 fi78_0 fi78_1 ix22 ix25 ix33 ix34 ix35 ix76 ix84 ix100 ap22 ap25 ap33 ap34 ap35 ap76 ap84 ap100 sz2 sz3 sz4 sz9 sz22 sz32 sz33 sz34 sz35 sz37 sz41 sz44 sz63 sz78 sz125 sr22 sr33 sr34 sr35 sr76 sr84 fk41 fk44 fk78 cl4 cl5 cl6 cl7 cl8 cl9 cl10 cl11 cl12 cl13 cl14 cl15 cl16 cl17 cl18 cl19 cl20 cl21 cl22 cl23 cl24 cl25 cl27 cl28 cl29 cl30 cl31 cl32 cl33 cl34 cl35 cl36 cl37 cl38 cl40 cl41 cl42 cl43 cl44 cl45 cl46 cl47 cl48 cl49 cl50 cl51 cl52 cl53 cl54 cl55 cl56 cl57 cl58 cl59 cl60 cl61 cl63 cl64 cl65 cl66 cl67 cl68 cl69 cl70 cl71 cl72 cl73 cl74 cl75 cl76 cl77 cl80 cl81 cl82 cl83 cl84 cl85 cl86 cl87 cl88 cl89 cl90 cl91 cl92 cl93 cl94 cl95 cl96 cl97 cl98 cl99 tz3 tz32 tz37 tz41 tz44 tz63 tz78 tz125 bs32 bs37 bs41 bs44 bs78 ud2 ud3 ud4 ud9 ud22 ud25 ud26 ud33 ud34 ud35 ud76 ud84 ud95 ud100 ud101 ud111 ud125
end Go.Proofs.Ytajeeghgiilhiaa
