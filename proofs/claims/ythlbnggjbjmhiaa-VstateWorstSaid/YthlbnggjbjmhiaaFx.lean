/- Closed facts on the types and functions that the code names, for the abstract layer; made by program. -/
import Derived.Test.YthlbnggjbjmhiaaRows
import Derived.Test.YthlbnggjbjmhiaaAbsL
namespace Go.Proofs.Ythlbnggjbjmhiaa
open Go Go.Abs

theorem ld2 : loadInfo Try.prog 2 = some (false, 1) := by kernel_rfl
theorem ld3 : loadInfo Try.prog 3 = some (false, 1) := by kernel_rfl
theorem ld4 : loadInfo Try.prog 4 = some (false, 1) := by kernel_rfl
theorem ld5 : loadInfo Try.prog 5 = some (false, 1) := by kernel_rfl
theorem ld9 : loadInfo Try.prog 9 = some (false, 1) := by kernel_rfl
theorem ld23 : loadInfo Try.prog 23 = some (true, 4) := by kernel_rfl
theorem ld36 : loadInfo Try.prog 36 = some (true, 10) := by kernel_rfl
theorem ld38 : loadInfo Try.prog 38 = some (false, 1) := by kernel_rfl
theorem ld39 : loadInfo Try.prog 39 = some (false, 1) := by kernel_rfl
theorem ld40 : loadInfo Try.prog 40 = some (false, 1) := by kernel_rfl
theorem ld42 : loadInfo Try.prog 42 = some (true, 5) := by kernel_rfl
theorem ld48 : loadInfo Try.prog 48 = some (true, 8) := by kernel_rfl
theorem ld50 : loadInfo Try.prog 50 = some (true, 9) := by kernel_rfl
theorem fi23_0 : fieldInfo Try.prog 23 0 = some (0, 2, 1) := by kernel_rfl
theorem fi23_1 : fieldInfo Try.prog 23 1 = some (1, 4, 1) := by kernel_rfl
theorem fi23_2 : fieldInfo Try.prog 23 2 = some (2, 4, 1) := by kernel_rfl
theorem fi23_3 : fieldInfo Try.prog 23 3 = some (3, 3, 1) := by kernel_rfl
theorem fi36_0 : fieldInfo Try.prog 36 0 = some (0, 9, 1) := by kernel_rfl
theorem fi36_1 : fieldInfo Try.prog 36 1 = some (1, 9, 1) := by kernel_rfl
theorem fi36_2 : fieldInfo Try.prog 36 2 = some (2, 9, 1) := by kernel_rfl
theorem fi36_3 : fieldInfo Try.prog 36 3 = some (3, 9, 1) := by kernel_rfl
theorem fi36_4 : fieldInfo Try.prog 36 4 = some (4, 9, 1) := by kernel_rfl
theorem fi36_5 : fieldInfo Try.prog 36 5 = some (5, 3, 1) := by kernel_rfl
theorem fi36_6 : fieldInfo Try.prog 36 6 = some (6, 4, 1) := by kernel_rfl
theorem fi36_7 : fieldInfo Try.prog 36 7 = some (7, 2, 1) := by kernel_rfl
theorem fi36_8 : fieldInfo Try.prog 36 8 = some (8, 2, 1) := by kernel_rfl
theorem fi36_9 : fieldInfo Try.prog 36 9 = some (9, 2, 1) := by kernel_rfl
theorem fi42_0 : fieldInfo Try.prog 42 0 = some (0, 38, 1) := by kernel_rfl
theorem fi42_1 : fieldInfo Try.prog 42 1 = some (1, 39, 1) := by kernel_rfl
theorem fi42_2 : fieldInfo Try.prog 42 2 = some (2, 40, 1) := by kernel_rfl
theorem fi42_3 : fieldInfo Try.prog 42 3 = some (3, 2, 1) := by kernel_rfl
theorem fi42_4 : fieldInfo Try.prog 42 4 = some (4, 3, 1) := by kernel_rfl
theorem fi48_0 : fieldInfo Try.prog 48 0 = some (0, 9, 1) := by kernel_rfl
theorem fi48_1 : fieldInfo Try.prog 48 1 = some (1, 9, 1) := by kernel_rfl
theorem fi48_2 : fieldInfo Try.prog 48 2 = some (2, 9, 1) := by kernel_rfl
theorem fi48_3 : fieldInfo Try.prog 48 3 = some (3, 4, 1) := by kernel_rfl
theorem fi48_4 : fieldInfo Try.prog 48 4 = some (4, 2, 1) := by kernel_rfl
theorem fi48_5 : fieldInfo Try.prog 48 5 = some (5, 2, 1) := by kernel_rfl
theorem fi48_6 : fieldInfo Try.prog 48 6 = some (6, 2, 1) := by kernel_rfl
theorem fi48_7 : fieldInfo Try.prog 48 7 = some (7, 4, 1) := by kernel_rfl
theorem fi50_0 : fieldInfo Try.prog 50 0 = some (0, 9, 1) := by kernel_rfl
theorem fi50_1 : fieldInfo Try.prog 50 1 = some (1, 9, 1) := by kernel_rfl
theorem fi50_2 : fieldInfo Try.prog 50 2 = some (2, 9, 1) := by kernel_rfl
theorem fi50_3 : fieldInfo Try.prog 50 3 = some (3, 9, 1) := by kernel_rfl
theorem fi50_4 : fieldInfo Try.prog 50 4 = some (4, 4, 1) := by kernel_rfl
theorem fi50_5 : fieldInfo Try.prog 50 5 = some (5, 2, 1) := by kernel_rfl
theorem fi50_6 : fieldInfo Try.prog 50 6 = some (6, 2, 1) := by kernel_rfl
theorem fi50_7 : fieldInfo Try.prog 50 7 = some (7, 2, 1) := by kernel_rfl
theorem fi50_8 : fieldInfo Try.prog 50 8 = some (8, 4, 1) := by kernel_rfl
theorem ix25 : idxInfo Try.prog 25 = some (some 5, 9, 1) := by kernel_rfl
theorem ix33 : idxInfo Try.prog 33 = some (none, 36, 10) := by kernel_rfl
theorem ix34 : idxInfo Try.prog 34 = some (none, 5, 1) := by kernel_rfl
theorem ix38 : idxInfo Try.prog 38 = some (none, 48, 8) := by kernel_rfl
theorem ix39 : idxInfo Try.prog 39 = some (none, 50, 9) := by kernel_rfl
theorem ix45 : idxInfo Try.prog 45 = some (some 5, 4, 1) := by kernel_rfl
theorem ap33 : appInfo Try.prog 33 = some (36, 10, 120) := by kernel_rfl
theorem ap38 : appInfo Try.prog 38 = some (48, 8, 88) := by kernel_rfl
theorem ap39 : appInfo Try.prog 39 = some (50, 9, 104) := by kernel_rfl
theorem ap40 : appInfo Try.prog 40 = some (9, 1, 16) := by kernel_rfl
theorem sz2 : tsz Try.prog 2 = some 1 := by kernel_rfl
theorem sz3 : tsz Try.prog 3 = some 1 := by kernel_rfl
theorem sz4 : tsz Try.prog 4 = some 1 := by kernel_rfl
theorem sz5 : tsz Try.prog 5 = some 1 := by kernel_rfl
theorem sz9 : tsz Try.prog 9 = some 1 := by kernel_rfl
theorem sz23 : tsz Try.prog 23 = some 4 := by kernel_rfl
theorem sz25 : tsz Try.prog 25 = some 5 := by kernel_rfl
theorem sz36 : tsz Try.prog 36 = some 10 := by kernel_rfl
theorem sz38 : tsz Try.prog 38 = some 1 := by kernel_rfl
theorem sz39 : tsz Try.prog 39 = some 1 := by kernel_rfl
theorem sz40 : tsz Try.prog 40 = some 1 := by kernel_rfl
theorem sz42 : tsz Try.prog 42 = some 5 := by kernel_rfl
theorem sz45 : tsz Try.prog 45 = some 5 := by kernel_rfl
theorem sz48 : tsz Try.prog 48 = some 8 := by kernel_rfl
theorem sz50 : tsz Try.prog 50 = some 9 := by kernel_rfl
theorem sr33 : srcTy Try.prog 33 = true := by kernel_rfl
theorem sr38 : srcTy Try.prog 38 = true := by kernel_rfl
theorem sr39 : srcTy Try.prog 39 = true := by kernel_rfl
theorem sr40 : srcTy Try.prog 40 = true := by kernel_rfl
theorem fk48 : flatKinds Try.prog 48 = some [1, 1, 1, 2, 0, 0, 0, 2] := by kernel_rfl
theorem fk50 : flatKinds Try.prog 50 = some [1, 1, 1, 1, 2, 0, 0, 0, 2] := by kernel_rfl
theorem cl6 : callable Try.prog 6 = true := by kernel_rfl
theorem cl7 : callable Try.prog 7 = true := by kernel_rfl
theorem cl8 : callable Try.prog 8 = true := by kernel_rfl
theorem cl9 : callable Try.prog 9 = true := by kernel_rfl
theorem cl10 : callable Try.prog 10 = true := by kernel_rfl
theorem cl11 : callable Try.prog 11 = true := by kernel_rfl
theorem cl12 : callable Try.prog 12 = true := by kernel_rfl
theorem cl13 : callable Try.prog 13 = true := by kernel_rfl
theorem cl14 : callable Try.prog 14 = true := by kernel_rfl
theorem cl15 : callable Try.prog 15 = true := by kernel_rfl
theorem cl16 : callable Try.prog 16 = true := by kernel_rfl
theorem cl17 : callable Try.prog 17 = true := by kernel_rfl
theorem cl18 : callable Try.prog 18 = true := by kernel_rfl
theorem cl19 : callable Try.prog 19 = true := by kernel_rfl
theorem cl20 : callable Try.prog 20 = true := by kernel_rfl
theorem cl21 : callable Try.prog 21 = true := by kernel_rfl
theorem cl22 : callable Try.prog 22 = true := by kernel_rfl
theorem cl23 : callable Try.prog 23 = true := by kernel_rfl
theorem cl24 : callable Try.prog 24 = true := by kernel_rfl
theorem cl25 : callable Try.prog 25 = true := by kernel_rfl
theorem cl27 : callable Try.prog 27 = true := by kernel_rfl
theorem cl28 : callable Try.prog 28 = true := by kernel_rfl
theorem cl29 : callable Try.prog 29 = true := by kernel_rfl
theorem cl30 : callable Try.prog 30 = true := by kernel_rfl
theorem cl31 : callable Try.prog 31 = true := by kernel_rfl
theorem cl32 : callable Try.prog 32 = true := by kernel_rfl
theorem cl33 : callable Try.prog 33 = true := by kernel_rfl
theorem cl34 : callable Try.prog 34 = true := by kernel_rfl
theorem cl35 : callable Try.prog 35 = true := by kernel_rfl
theorem cl36 : callable Try.prog 36 = true := by kernel_rfl
theorem cl37 : callable Try.prog 37 = true := by kernel_rfl
theorem cl38 : callable Try.prog 38 = true := by kernel_rfl
theorem cl39 : callable Try.prog 39 = true := by kernel_rfl
theorem cl40 : callable Try.prog 40 = true := by kernel_rfl
theorem cl41 : callable Try.prog 41 = true := by kernel_rfl
theorem cl42 : callable Try.prog 42 = true := by kernel_rfl
theorem cl43 : callable Try.prog 43 = true := by kernel_rfl
theorem cl44 : callable Try.prog 44 = true := by kernel_rfl
theorem cl45 : callable Try.prog 45 = true := by kernel_rfl
theorem cl46 : callable Try.prog 46 = true := by kernel_rfl
theorem cl47 : callable Try.prog 47 = true := by kernel_rfl
theorem cl48 : callable Try.prog 48 = true := by kernel_rfl
theorem cl49 : callable Try.prog 49 = true := by kernel_rfl
theorem tz23 : tzero Try.prog 23 = some [.v (.int .i64 0), .v (.bool false), .v (.bool false), .v (.int .i64 0)] := by kernel_rfl
theorem tz25 : tzero Try.prog 25 = some [.v (.string ⟨#[]⟩), .v (.string ⟨#[]⟩), .v (.string ⟨#[]⟩), .v (.string ⟨#[]⟩), .v (.string ⟨#[]⟩)] := by kernel_rfl
theorem tz36 : tzero Try.prog 36 = some [.v (.string ⟨#[]⟩), .v (.string ⟨#[]⟩), .v (.string ⟨#[]⟩), .v (.string ⟨#[]⟩), .v (.string ⟨#[]⟩), .v (.int .i64 0), .v (.bool false), .v (.int .i64 0), .v (.int .i64 0), .v (.int .i64 0)] := by kernel_rfl
theorem tz42 : tzero Try.prog 42 = some [.nilS, .nilS, .nilS, .v (.int .i64 0), .v (.int .i64 0)] := by kernel_rfl
theorem tz45 : tzero Try.prog 45 = some [.v (.bool false), .v (.bool false), .v (.bool false), .v (.bool false), .v (.bool false)] := by kernel_rfl
theorem tz48 : tzero Try.prog 48 = some [.v (.string ⟨#[]⟩), .v (.string ⟨#[]⟩), .v (.string ⟨#[]⟩), .v (.bool false), .v (.int .i64 0), .v (.int .i64 0), .v (.int .i64 0), .v (.bool false)] := by kernel_rfl
theorem tz50 : tzero Try.prog 50 = some [.v (.string ⟨#[]⟩), .v (.string ⟨#[]⟩), .v (.string ⟨#[]⟩), .v (.string ⟨#[]⟩), .v (.bool false), .v (.int .i64 0), .v (.int .i64 0), .v (.int .i64 0), .v (.bool false)] := by kernel_rfl
theorem bs23 : buildS Try.prog 23 = some [(0, 1), (1, 1), (2, 1), (3, 1)] := by kernel_rfl
theorem bs25 : buildS Try.prog 25 = none := by kernel_rfl
theorem ba25 : buildA Try.prog 25 = some 1 := by kernel_rfl
theorem bs36 : buildS Try.prog 36 = some [(0, 1), (1, 1), (2, 1), (3, 1), (4, 1), (5, 1), (6, 1), (7, 1), (8, 1), (9, 1)] := by kernel_rfl
theorem bs48 : buildS Try.prog 48 = some [(0, 1), (1, 1), (2, 1), (3, 1), (4, 1), (5, 1), (6, 1), (7, 1)] := by kernel_rfl
theorem bs50 : buildS Try.prog 50 = some [(0, 1), (1, 1), (2, 1), (3, 1), (4, 1), (5, 1), (6, 1), (7, 1), (8, 1)] := by kernel_rfl
theorem ud2 : Try.prog.underlying 2 = some (.int (Go.IntKind.i64)) := by kernel_rfl
theorem ud3 : Try.prog.underlying 3 = some (.int (Go.IntKind.i64)) := by kernel_rfl
theorem ud4 : Try.prog.underlying 4 = some (.bool) := by kernel_rfl
theorem ud5 : Try.prog.underlying 5 = some (.int (Go.IntKind.u8)) := by kernel_rfl
theorem ud9 : Try.prog.underlying 9 = some (.string) := by kernel_rfl
theorem ud25 : Try.prog.underlying 25 = some (.array 5 9) := by kernel_rfl
theorem ud30 : Try.prog.underlying 30 = some (.int (Go.IntKind.u32)) := by kernel_rfl
theorem ud31 : Try.prog.underlying 31 = some (.int (Go.IntKind.u16)) := by kernel_rfl
theorem ud33 : Try.prog.underlying 33 = some (.slice 36) := by kernel_rfl
theorem ud34 : Try.prog.underlying 34 = some (.slice 5) := by kernel_rfl
theorem ud38 : Try.prog.underlying 38 = some (.slice 48) := by kernel_rfl
theorem ud39 : Try.prog.underlying 39 = some (.slice 50) := by kernel_rfl
theorem ud40 : Try.prog.underlying 40 = some (.slice 9) := by kernel_rfl
theorem ud45 : Try.prog.underlying 45 = some (.array 5 4) := by kernel_rfl
theorem ud61 : Try.prog.underlying 61 = some (.int (Go.IntKind.i64)) := by kernel_rfl
attribute [go_sem] ld2 ld3 ld4 ld5 ld9 ld23 ld36 ld38 ld39 ld40 ld42 ld48 ld50 fi23_0 fi23_1 fi23_2 fi23_3 fi36_0 fi36_1 fi36_2 fi36_3 fi36_4 fi36_5 fi36_6 fi36_7 fi36_8 fi36_9 fi42_0 fi42_1 fi42_2 fi42_3 fi42_4 fi48_0 fi48_1 fi48_2 fi48_3 fi48_4 fi48_5 fi48_6 fi48_7 fi50_0 fi50_1 fi50_2 fi50_3 fi50_4 fi50_5 fi50_6 fi50_7 fi50_8 ix25 ix33 ix34 ix38 ix39 ix45 ap33 ap38 ap39 ap40 sz2 sz3 sz4 sz5 sz9 sz23 sz25 sz36 sz38 sz39 sz40 sz42 sz45 sz48 sz50 sr33 sr38 sr39 sr40 fk48 fk50 cl6 cl7 cl8 cl9 cl10 cl11 cl12 cl13 cl14 cl15 cl16 cl17 cl18 cl19 cl20 cl21 cl22 cl23 cl24 cl25 cl27 cl28 cl29 cl30 cl31 cl32 cl33 cl34 cl35 cl36 cl37 cl38 cl39 cl40 cl41 cl42 cl43 cl44 cl45 cl46 cl47 cl48 cl49 tz23 tz25 tz36 tz42 tz45 tz48 tz50 bs23 bs25 ba25 bs36 bs48 bs50 ud2 ud3 ud4 ud5 ud9 ud25 ud30 ud31 ud33 ud34 ud38 ud39 ud40 ud45 ud61
end Go.Proofs.Ythlbnggjbjmhiaa
