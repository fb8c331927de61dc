/- Closed facts on the types and functions that the code names, for the abstract layer; made by program. -/
import Derived.Test.YtgiomlgkccjhfaaDoorRows
import Derived.Test.YtgiomlgkccjhfaaDoorLb
namespace Go.Proofs.YtgiomlgkccjhfaaDoor
open Go Go.Abs

theorem ld3 : loadInfo Tryd.prog 3 = some (false, 1) := by kernel_rfl
theorem ld5 : loadInfo Tryd.prog 5 = some (false, 1) := by kernel_rfl
theorem ld9 : loadInfo Tryd.prog 9 = some (false, 1) := by kernel_rfl
theorem ld25 : loadInfo Tryd.prog 25 = some (false, 1) := by kernel_rfl
theorem ld39 : loadInfo Tryd.prog 39 = some (true, 2) := by kernel_rfl
theorem fi39_0 : fieldInfo Tryd.prog 39 0 = some (0, 3, 1) := by kernel_rfl
theorem fi39_1 : fieldInfo Tryd.prog 39 1 = some (1, 9, 1) := by kernel_rfl
theorem ix22 : idxInfo Tryd.prog 22 = some (none, 39, 2) := by kernel_rfl
theorem ix25 : idxInfo Tryd.prog 25 = some (none, 5, 1) := by kernel_rfl
theorem ix57 : idxInfo Tryd.prog 57 = some (none, 25, 1) := by kernel_rfl
theorem ap22 : appInfo Tryd.prog 22 = some (39, 2, 24) := by kernel_rfl
theorem ap25 : appInfo Tryd.prog 25 = some (5, 1, 1) := by kernel_rfl
theorem ap57 : appInfo Tryd.prog 57 = some (25, 1, 24) := by kernel_rfl
theorem sz5 : tsz Tryd.prog 5 = some 1 := by kernel_rfl
theorem sz25 : tsz Tryd.prog 25 = some 1 := by kernel_rfl
theorem sz39 : tsz Tryd.prog 39 = some 2 := by kernel_rfl
theorem sr9 : srcTy Tryd.prog 9 = true := by kernel_rfl
theorem sr22 : srcTy Tryd.prog 22 = true := by kernel_rfl
theorem sr25 : srcTy Tryd.prog 25 = true := by kernel_rfl
theorem sr57 : srcTy Tryd.prog 57 = true := by kernel_rfl
theorem fk39 : flatKinds Tryd.prog 39 = some [0, 1] := by kernel_rfl
theorem cc9 : Tryd.prog.concrete 9 = true := by kernel_rfl
theorem cl16 : callable Tryd.prog 16 = true := by kernel_rfl
theorem cl17 : callable Tryd.prog 17 = true := by kernel_rfl
theorem cl18 : callable Tryd.prog 18 = true := by kernel_rfl
theorem cl19 : callable Tryd.prog 19 = true := by kernel_rfl
theorem cl20 : callable Tryd.prog 20 = true := by kernel_rfl
theorem cl21 : callable Tryd.prog 21 = true := by kernel_rfl
theorem cl22 : callable Tryd.prog 22 = true := by kernel_rfl
theorem cl23 : callable Tryd.prog 23 = true := by kernel_rfl
theorem cl24 : callable Tryd.prog 24 = true := by kernel_rfl
theorem cl25 : callable Tryd.prog 25 = true := by kernel_rfl
theorem cl26 : callable Tryd.prog 26 = true := by kernel_rfl
theorem cl27 : callable Tryd.prog 27 = true := by kernel_rfl
theorem cl28 : callable Tryd.prog 28 = true := by kernel_rfl
theorem cl29 : callable Tryd.prog 29 = true := by kernel_rfl
theorem cl30 : callable Tryd.prog 30 = true := by kernel_rfl
theorem cl31 : callable Tryd.prog 31 = true := by kernel_rfl
theorem cl32 : callable Tryd.prog 32 = true := by kernel_rfl
theorem cl33 : callable Tryd.prog 33 = true := by kernel_rfl
theorem cl34 : callable Tryd.prog 34 = true := by kernel_rfl
theorem cl35 : callable Tryd.prog 35 = true := by kernel_rfl
theorem cl36 : callable Tryd.prog 36 = true := by kernel_rfl
theorem cl37 : callable Tryd.prog 37 = true := by kernel_rfl
theorem cl38 : callable Tryd.prog 38 = true := by kernel_rfl
theorem cl39 : callable Tryd.prog 39 = true := by kernel_rfl
theorem cl40 : callable Tryd.prog 40 = true := by kernel_rfl
theorem cl41 : callable Tryd.prog 41 = true := by kernel_rfl
theorem cl42 : callable Tryd.prog 42 = true := by kernel_rfl
theorem cl43 : callable Tryd.prog 43 = true := by kernel_rfl
theorem cl44 : callable Tryd.prog 44 = true := by kernel_rfl
theorem cl45 : callable Tryd.prog 45 = true := by kernel_rfl
theorem cl46 : callable Tryd.prog 46 = true := by kernel_rfl
theorem cl47 : callable Tryd.prog 47 = true := by kernel_rfl
theorem cl48 : callable Tryd.prog 48 = true := by kernel_rfl
theorem cl49 : callable Tryd.prog 49 = true := by kernel_rfl
theorem cl50 : callable Tryd.prog 50 = true := by kernel_rfl
theorem cl51 : callable Tryd.prog 51 = true := by kernel_rfl
theorem cl52 : callable Tryd.prog 52 = true := by kernel_rfl
theorem cl53 : callable Tryd.prog 53 = true := by kernel_rfl
theorem cl54 : callable Tryd.prog 54 = true := by kernel_rfl
theorem cl55 : callable Tryd.prog 55 = true := by kernel_rfl
theorem cl56 : callable Tryd.prog 56 = true := by kernel_rfl
theorem cl57 : callable Tryd.prog 57 = true := by kernel_rfl
theorem cl58 : callable Tryd.prog 58 = true := by kernel_rfl
theorem cl59 : callable Tryd.prog 59 = true := by kernel_rfl
theorem cl60 : callable Tryd.prog 60 = true := by kernel_rfl
theorem cl63 : callable Tryd.prog 63 = true := by kernel_rfl
theorem cl65 : callable Tryd.prog 65 = true := by kernel_rfl
theorem cl66 : callable Tryd.prog 66 = true := by kernel_rfl
theorem tz39 : tzero Tryd.prog 39 = some [.v (.int .i64 0), .v (.string ⟨#[]⟩)] := by kernel_rfl
theorem bs39 : buildS Tryd.prog 39 = some [(0, 1), (1, 1)] := by kernel_rfl
theorem ud2 : Tryd.prog.underlying 2 = some (.int (Go.IntKind.i64)) := by kernel_rfl
theorem ud3 : Tryd.prog.underlying 3 = some (.int (Go.IntKind.i64)) := by kernel_rfl
theorem ud4 : Tryd.prog.underlying 4 = some (.bool) := by kernel_rfl
theorem ud5 : Tryd.prog.underlying 5 = some (.int (Go.IntKind.u8)) := by kernel_rfl
theorem ud9 : Tryd.prog.underlying 9 = some (.string) := by kernel_rfl
theorem ud21 : Tryd.prog.underlying 21 = some (.int (Go.IntKind.i32)) := by kernel_rfl
theorem ud22 : Tryd.prog.underlying 22 = some (.slice 39) := by kernel_rfl
theorem ud25 : Tryd.prog.underlying 25 = some (.slice 5) := by kernel_rfl
theorem ud26 : Tryd.prog.underlying 26 = some (.int (Go.IntKind.i64)) := by kernel_rfl
theorem ud48 : Tryd.prog.underlying 48 = some (.int (Go.IntKind.u16)) := by kernel_rfl
theorem ud57 : Tryd.prog.underlying 57 = some (.slice 25) := by kernel_rfl
theorem ud68 : Tryd.prog.underlying 68 = some (.int (Go.IntKind.u64)) := by kernel_rfl
attribute [go_sem] ld3 ld5 ld9 ld25 ld39 fi39_0 fi39_1 ix22 ix25 ix57 ap22 ap25 ap57 sz5 sz25 sz39 sr9 sr22 sr25 sr57 fk39 cc9 cl16 cl17 cl18 cl19 cl20 cl21 cl22 cl23 cl24 cl25 cl26 cl27 cl28 cl29 cl30 cl31 cl32 cl33 cl34 cl35 cl36 cl37 cl38 cl39 cl40 cl41 cl42 cl43 cl44 cl45 cl46 cl47 cl48 cl49 cl50 cl51 cl52 cl53 cl54 cl55 cl56 cl57 cl58 cl59 cl60 cl63 cl65 cl66 tz39 bs39 ud2 ud3 ud4 ud5 ud9 ud21 ud22 ud25 ud26 ud48 ud57 ud68
end Go.Proofs.YtgiomlgkccjhfaaDoor
