/- Texts of one chain, put together (Facts, N0, N1, N2). -/
import Derived.Test.YtajeeghgiilhiaaGreatRows
import Derived.Test.YtajeeghgiilhiaaGreatKuE
import Derived.Test.YtajeeghgiilhiaaGreatKuD
set_option linter.unusedVariables false
set_option linter.unusedSimpArgs false
section
namespace Go.Proofs.YtajeeghgiilhiaaGreat
open Go Go.Abs
theorem ld2 : loadInfo Tryz.prog 2 = some (false, 1) := by kernel_rfl
theorem ld3 : loadInfo Tryz.prog 3 = some (false, 1) := by kernel_rfl
theorem ld4 : loadInfo Tryz.prog 4 = some (false, 1) := by kernel_rfl
theorem ld5 : loadInfo Tryz.prog 5 = some (false, 1) := by kernel_rfl
theorem ld9 : loadInfo Tryz.prog 9 = some (false, 1) := by kernel_rfl
theorem ld22 : loadInfo Tryz.prog 22 = some (false, 1) := by kernel_rfl
theorem ld23 : loadInfo Tryz.prog 23 = some (false, 1) := by kernel_rfl
theorem ld24 : loadInfo Tryz.prog 24 = some (false, 1) := by kernel_rfl
theorem ld26 : loadInfo Tryz.prog 26 = some (true, 5) := by kernel_rfl
theorem ld27 : loadInfo Tryz.prog 27 = some (false, 1) := by kernel_rfl
theorem ld45 : loadInfo Tryz.prog 45 = some (true, 2) := by kernel_rfl
theorem ld49 : loadInfo Tryz.prog 49 = some (true, 5) := by kernel_rfl
theorem ld55 : loadInfo Tryz.prog 55 = some (false, 1) := by kernel_rfl
theorem ld56 : loadInfo Tryz.prog 56 = some (false, 1) := by kernel_rfl
theorem ld58 : loadInfo Tryz.prog 58 = some (true, 5) := by kernel_rfl
theorem ld63 : loadInfo Tryz.prog 63 = some (true, 6) := by kernel_rfl
theorem ld65 : loadInfo Tryz.prog 65 = some (true, 8) := by kernel_rfl
theorem ld69 : loadInfo Tryz.prog 69 = some (true, 10) := by kernel_rfl
theorem ld77 : loadInfo Tryz.prog 77 = some (true, 29) := by kernel_rfl
theorem ld86 : loadInfo Tryz.prog 86 = some (true, 8) := by kernel_rfl
theorem ld106 : loadInfo Tryz.prog 106 = some (true, 9) := by kernel_rfl
theorem ld176 : loadInfo Tryz.prog 176 = some (true, 2) := by kernel_rfl
theorem ld243 : loadInfo Tryz.prog 243 = some (false, 1) := by kernel_rfl
theorem fi26_0 : fieldInfo Tryz.prog 26 0 = some (0, 22, 1) := by kernel_rfl
theorem fi26_1 : fieldInfo Tryz.prog 26 1 = some (1, 23, 1) := by kernel_rfl
theorem fi26_2 : fieldInfo Tryz.prog 26 2 = some (2, 24, 1) := by kernel_rfl
theorem fi26_3 : fieldInfo Tryz.prog 26 3 = some (3, 2, 1) := by kernel_rfl
theorem fi26_4 : fieldInfo Tryz.prog 26 4 = some (4, 3, 1) := by kernel_rfl
theorem fi45_0 : fieldInfo Tryz.prog 45 0 = some (0, 2, 1) := by kernel_rfl
theorem fi45_1 : fieldInfo Tryz.prog 45 1 = some (1, 2, 1) := by kernel_rfl
theorem fi49_0 : fieldInfo Tryz.prog 49 0 = some (0, 9, 1) := by kernel_rfl
theorem fi49_1 : fieldInfo Tryz.prog 49 1 = some (1, 9, 1) := by kernel_rfl
theorem fi49_2 : fieldInfo Tryz.prog 49 2 = some (2, 2, 1) := by kernel_rfl
theorem fi49_3 : fieldInfo Tryz.prog 49 3 = some (3, 2, 1) := by kernel_rfl
theorem fi49_4 : fieldInfo Tryz.prog 49 4 = some (4, 4, 1) := by kernel_rfl
theorem fi58_0 : fieldInfo Tryz.prog 58 0 = some (0, 55, 1) := by kernel_rfl
theorem fi58_1 : fieldInfo Tryz.prog 58 1 = some (1, 56, 1) := by kernel_rfl
theorem fi58_2 : fieldInfo Tryz.prog 58 2 = some (2, 4, 1) := by kernel_rfl
theorem fi58_3 : fieldInfo Tryz.prog 58 3 = some (3, 2, 1) := by kernel_rfl
theorem fi58_4 : fieldInfo Tryz.prog 58 4 = some (4, 2, 1) := by kernel_rfl
theorem fi63_0 : fieldInfo Tryz.prog 63 0 = some (0, 9, 1) := by kernel_rfl
theorem fi63_1 : fieldInfo Tryz.prog 63 1 = some (1, 9, 1) := by kernel_rfl
theorem fi63_2 : fieldInfo Tryz.prog 63 2 = some (2, 2, 1) := by kernel_rfl
theorem fi63_3 : fieldInfo Tryz.prog 63 3 = some (3, 2, 1) := by kernel_rfl
theorem fi63_4 : fieldInfo Tryz.prog 63 4 = some (4, 2, 1) := by kernel_rfl
theorem fi63_5 : fieldInfo Tryz.prog 63 5 = some (5, 2, 1) := by kernel_rfl
theorem fi65_0 : fieldInfo Tryz.prog 65 0 = some (0, 9, 1) := by kernel_rfl
theorem fi65_1 : fieldInfo Tryz.prog 65 1 = some (1, 9, 1) := by kernel_rfl
theorem fi65_2 : fieldInfo Tryz.prog 65 2 = some (2, 9, 1) := by kernel_rfl
theorem fi65_3 : fieldInfo Tryz.prog 65 3 = some (3, 4, 1) := by kernel_rfl
theorem fi65_4 : fieldInfo Tryz.prog 65 4 = some (4, 2, 1) := by kernel_rfl
theorem fi65_5 : fieldInfo Tryz.prog 65 5 = some (5, 2, 1) := by kernel_rfl
theorem fi65_6 : fieldInfo Tryz.prog 65 6 = some (6, 2, 1) := by kernel_rfl
theorem fi65_7 : fieldInfo Tryz.prog 65 7 = some (7, 4, 1) := by kernel_rfl
theorem fi69_0 : fieldInfo Tryz.prog 69 0 = some (0, 9, 1) := by kernel_rfl
theorem fi69_1 : fieldInfo Tryz.prog 69 1 = some (1, 9, 1) := by kernel_rfl
theorem fi69_2 : fieldInfo Tryz.prog 69 2 = some (2, 9, 1) := by kernel_rfl
theorem fi69_3 : fieldInfo Tryz.prog 69 3 = some (3, 9, 1) := by kernel_rfl
theorem fi69_4 : fieldInfo Tryz.prog 69 4 = some (4, 9, 1) := by kernel_rfl
theorem fi69_5 : fieldInfo Tryz.prog 69 5 = some (5, 3, 1) := by kernel_rfl
theorem fi69_6 : fieldInfo Tryz.prog 69 6 = some (6, 4, 1) := by kernel_rfl
theorem fi69_7 : fieldInfo Tryz.prog 69 7 = some (7, 2, 1) := by kernel_rfl
theorem fi69_8 : fieldInfo Tryz.prog 69 8 = some (8, 2, 1) := by kernel_rfl
theorem fi69_9 : fieldInfo Tryz.prog 69 9 = some (9, 2, 1) := by kernel_rfl
theorem fi77_0 : fieldInfo Tryz.prog 77 0 = some (0, 5, 1) := by kernel_rfl
theorem fi77_1 : fieldInfo Tryz.prog 77 1 = some (1, 3, 1) := by kernel_rfl
theorem fi77_2 : fieldInfo Tryz.prog 77 2 = some (2, 65, 8) := by kernel_rfl
theorem fi77_3 : fieldInfo Tryz.prog 77 3 = some (10, 9, 1) := by kernel_rfl
theorem fi77_4 : fieldInfo Tryz.prog 77 4 = some (11, 69, 10) := by kernel_rfl
theorem fi77_5 : fieldInfo Tryz.prog 77 5 = some (21, 5, 1) := by kernel_rfl
theorem fi77_6 : fieldInfo Tryz.prog 77 6 = some (22, 4, 1) := by kernel_rfl
theorem fi77_7 : fieldInfo Tryz.prog 77 7 = some (23, 63, 6) := by kernel_rfl
theorem fi86_0 : fieldInfo Tryz.prog 86 0 = some (0, 26, 5) := by kernel_rfl
theorem fi86_1 : fieldInfo Tryz.prog 86 1 = some (5, 22, 1) := by kernel_rfl
theorem fi86_2 : fieldInfo Tryz.prog 86 2 = some (6, 2, 1) := by kernel_rfl
theorem fi86_3 : fieldInfo Tryz.prog 86 3 = some (7, 4, 1) := by kernel_rfl
theorem fi106_0 : fieldInfo Tryz.prog 106 0 = some (0, 9, 1) := by kernel_rfl
theorem fi106_1 : fieldInfo Tryz.prog 106 1 = some (1, 9, 1) := by kernel_rfl
theorem fi106_2 : fieldInfo Tryz.prog 106 2 = some (2, 9, 1) := by kernel_rfl
theorem fi106_3 : fieldInfo Tryz.prog 106 3 = some (3, 9, 1) := by kernel_rfl
theorem fi106_4 : fieldInfo Tryz.prog 106 4 = some (4, 4, 1) := by kernel_rfl
theorem fi106_5 : fieldInfo Tryz.prog 106 5 = some (5, 2, 1) := by kernel_rfl
theorem fi106_6 : fieldInfo Tryz.prog 106 6 = some (6, 2, 1) := by kernel_rfl
theorem fi106_7 : fieldInfo Tryz.prog 106 7 = some (7, 2, 1) := by kernel_rfl
theorem fi106_8 : fieldInfo Tryz.prog 106 8 = some (8, 4, 1) := by kernel_rfl
theorem fi169_0 : fieldInfo Tryz.prog 169 0 = some (0, 2, 1) := by kernel_rfl
theorem fi169_1 : fieldInfo Tryz.prog 169 1 = some (1, 4, 1) := by kernel_rfl
theorem fi169_2 : fieldInfo Tryz.prog 169 2 = some (2, 4, 1) := by kernel_rfl
theorem fi169_3 : fieldInfo Tryz.prog 169 3 = some (3, 3, 1) := by kernel_rfl
theorem fi176_0 : fieldInfo Tryz.prog 176 0 = some (0, 9, 1) := by kernel_rfl
theorem fi176_1 : fieldInfo Tryz.prog 176 1 = some (1, 9, 1) := by kernel_rfl
theorem ix22 : idxInfo Tryz.prog 22 = some (none, 65, 8) := by kernel_rfl
theorem ix23 : idxInfo Tryz.prog 23 = some (none, 106, 9) := by kernel_rfl
theorem ix24 : idxInfo Tryz.prog 24 = some (none, 9, 1) := by kernel_rfl
theorem ix27 : idxInfo Tryz.prog 27 = some (none, 49, 5) := by kernel_rfl
theorem ix31 : idxInfo Tryz.prog 31 = some (none, 27, 1) := by kernel_rfl
theorem ix55 : idxInfo Tryz.prog 55 = some (none, 86, 8) := by kernel_rfl
theorem ix56 : idxInfo Tryz.prog 56 = some (none, 63, 6) := by kernel_rfl
theorem ix73 : idxInfo Tryz.prog 73 = some (none, 77, 29) := by kernel_rfl
theorem ix91 : idxInfo Tryz.prog 91 = some (none, 69, 10) := by kernel_rfl
theorem ix92 : idxInfo Tryz.prog 92 = some (none, 4, 1) := by kernel_rfl
theorem ix174 : idxInfo Tryz.prog 174 = some (none, 176, 2) := by kernel_rfl
theorem ix187 : idxInfo Tryz.prog 187 = some (none, 2, 1) := by kernel_rfl
theorem ix217 : idxInfo Tryz.prog 217 = some (none, 3, 1) := by kernel_rfl
theorem ix222 : idxInfo Tryz.prog 222 = some (some 5, 4, 1) := by kernel_rfl
theorem ap22 : appInfo Tryz.prog 22 = some (65, 8, 88) := by kernel_rfl
theorem ap23 : appInfo Tryz.prog 23 = some (106, 9, 104) := by kernel_rfl
theorem ap24 : appInfo Tryz.prog 24 = some (9, 1, 16) := by kernel_rfl
theorem ap27 : appInfo Tryz.prog 27 = some (49, 5, 56) := by kernel_rfl
theorem ap31 : appInfo Tryz.prog 31 = some (27, 1, 24) := by kernel_rfl
theorem ap55 : appInfo Tryz.prog 55 = some (86, 8, 128) := by kernel_rfl
theorem ap56 : appInfo Tryz.prog 56 = some (63, 6, 64) := by kernel_rfl
theorem ap174 : appInfo Tryz.prog 174 = some (176, 2, 32) := by kernel_rfl
theorem ap187 : appInfo Tryz.prog 187 = some (2, 1, 8) := by kernel_rfl
theorem ap217 : appInfo Tryz.prog 217 = some (3, 1, 8) := by kernel_rfl
theorem sz2 : tsz Tryz.prog 2 = some 1 := by kernel_rfl
theorem sz3 : tsz Tryz.prog 3 = some 1 := by kernel_rfl
theorem sz4 : tsz Tryz.prog 4 = some 1 := by kernel_rfl
theorem sz9 : tsz Tryz.prog 9 = some 1 := by kernel_rfl
theorem sz22 : tsz Tryz.prog 22 = some 1 := by kernel_rfl
theorem sz23 : tsz Tryz.prog 23 = some 1 := by kernel_rfl
theorem sz24 : tsz Tryz.prog 24 = some 1 := by kernel_rfl
theorem sz26 : tsz Tryz.prog 26 = some 5 := by kernel_rfl
theorem sz27 : tsz Tryz.prog 27 = some 1 := by kernel_rfl
theorem sz45 : tsz Tryz.prog 45 = some 2 := by kernel_rfl
theorem sz49 : tsz Tryz.prog 49 = some 5 := by kernel_rfl
theorem sz55 : tsz Tryz.prog 55 = some 1 := by kernel_rfl
theorem sz56 : tsz Tryz.prog 56 = some 1 := by kernel_rfl
theorem sz58 : tsz Tryz.prog 58 = some 5 := by kernel_rfl
theorem sz63 : tsz Tryz.prog 63 = some 6 := by kernel_rfl
theorem sz65 : tsz Tryz.prog 65 = some 8 := by kernel_rfl
theorem sz69 : tsz Tryz.prog 69 = some 10 := by kernel_rfl
theorem sz77 : tsz Tryz.prog 77 = some 29 := by kernel_rfl
theorem sz86 : tsz Tryz.prog 86 = some 8 := by kernel_rfl
theorem sz106 : tsz Tryz.prog 106 = some 9 := by kernel_rfl
theorem sz169 : tsz Tryz.prog 169 = some 4 := by kernel_rfl
theorem sz176 : tsz Tryz.prog 176 = some 2 := by kernel_rfl
theorem sz222 : tsz Tryz.prog 222 = some 5 := by kernel_rfl
theorem sz243 : tsz Tryz.prog 243 = some 1 := by kernel_rfl
theorem sr22 : srcTy Tryz.prog 22 = true := by kernel_rfl
theorem sr23 : srcTy Tryz.prog 23 = true := by kernel_rfl
theorem sr24 : srcTy Tryz.prog 24 = true := by kernel_rfl
theorem sr27 : srcTy Tryz.prog 27 = true := by kernel_rfl
theorem sr31 : srcTy Tryz.prog 31 = true := by kernel_rfl
theorem sr55 : srcTy Tryz.prog 55 = true := by kernel_rfl
theorem sr56 : srcTy Tryz.prog 56 = true := by kernel_rfl
theorem sr174 : srcTy Tryz.prog 174 = true := by kernel_rfl
theorem sr187 : srcTy Tryz.prog 187 = true := by kernel_rfl
theorem fk45 : flatKinds Tryz.prog 45 = some [0, 0] := by kernel_rfl
theorem fk49 : flatKinds Tryz.prog 49 = some [1, 1, 0, 0, 2] := by kernel_rfl
theorem fk63 : flatKinds Tryz.prog 63 = some [1, 1, 0, 0, 0, 0] := by kernel_rfl
theorem fk65 : flatKinds Tryz.prog 65 = some [1, 1, 1, 2, 0, 0, 0, 2] := by kernel_rfl
theorem fk106 : flatKinds Tryz.prog 106 = some [1, 1, 1, 1, 2, 0, 0, 0, 2] := by kernel_rfl
theorem fk176 : flatKinds Tryz.prog 176 = some [1, 1] := by kernel_rfl
theorem cl10 : callable Tryz.prog 10 = true := by kernel_rfl
theorem cl11 : callable Tryz.prog 11 = true := by kernel_rfl
theorem cl12 : callable Tryz.prog 12 = true := by kernel_rfl
theorem cl13 : callable Tryz.prog 13 = true := by kernel_rfl
theorem cl14 : callable Tryz.prog 14 = true := by kernel_rfl
theorem cl15 : callable Tryz.prog 15 = true := by kernel_rfl
theorem cl16 : callable Tryz.prog 16 = true := by kernel_rfl
theorem cl17 : callable Tryz.prog 17 = true := by kernel_rfl
theorem cl18 : callable Tryz.prog 18 = true := by kernel_rfl
theorem cl19 : callable Tryz.prog 19 = true := by kernel_rfl
theorem cl20 : callable Tryz.prog 20 = true := by kernel_rfl
theorem cl21 : callable Tryz.prog 21 = true := by kernel_rfl
theorem cl22 : callable Tryz.prog 22 = true := by kernel_rfl
theorem cl23 : callable Tryz.prog 23 = true := by kernel_rfl
theorem cl24 : callable Tryz.prog 24 = true := by kernel_rfl
theorem cl25 : callable Tryz.prog 25 = true := by kernel_rfl
theorem cl26 : callable Tryz.prog 26 = true := by kernel_rfl
theorem cl27 : callable Tryz.prog 27 = true := by kernel_rfl
theorem cl28 : callable Tryz.prog 28 = true := by kernel_rfl
theorem cl29 : callable Tryz.prog 29 = true := by kernel_rfl
theorem cl30 : callable Tryz.prog 30 = true := by kernel_rfl
theorem cl31 : callable Tryz.prog 31 = true := by kernel_rfl
theorem cl32 : callable Tryz.prog 32 = true := by kernel_rfl
theorem cl33 : callable Tryz.prog 33 = true := by kernel_rfl
theorem cl34 : callable Tryz.prog 34 = true := by kernel_rfl
theorem cl35 : callable Tryz.prog 35 = true := by kernel_rfl
theorem cl36 : callable Tryz.prog 36 = true := by kernel_rfl
theorem cl37 : callable Tryz.prog 37 = true := by kernel_rfl
theorem cl38 : callable Tryz.prog 38 = true := by kernel_rfl
theorem cl39 : callable Tryz.prog 39 = true := by kernel_rfl
theorem cl40 : callable Tryz.prog 40 = true := by kernel_rfl
theorem cl41 : callable Tryz.prog 41 = true := by kernel_rfl
theorem cl42 : callable Tryz.prog 42 = true := by kernel_rfl
theorem cl43 : callable Tryz.prog 43 = true := by kernel_rfl
theorem cl44 : callable Tryz.prog 44 = true := by kernel_rfl
theorem cl45 : callable Tryz.prog 45 = true := by kernel_rfl
theorem cl46 : callable Tryz.prog 46 = true := by kernel_rfl
theorem cl47 : callable Tryz.prog 47 = true := by kernel_rfl
theorem cl48 : callable Tryz.prog 48 = true := by kernel_rfl
theorem cl49 : callable Tryz.prog 49 = true := by kernel_rfl
theorem cl50 : callable Tryz.prog 50 = true := by kernel_rfl
theorem cl51 : callable Tryz.prog 51 = true := by kernel_rfl
theorem cl52 : callable Tryz.prog 52 = true := by kernel_rfl
theorem cl53 : callable Tryz.prog 53 = true := by kernel_rfl
theorem cl54 : callable Tryz.prog 54 = true := by kernel_rfl
theorem cl55 : callable Tryz.prog 55 = true := by kernel_rfl
theorem cl56 : callable Tryz.prog 56 = true := by kernel_rfl
theorem cl57 : callable Tryz.prog 57 = true := by kernel_rfl
theorem cl58 : callable Tryz.prog 58 = true := by kernel_rfl
theorem cl59 : callable Tryz.prog 59 = true := by kernel_rfl
theorem cl60 : callable Tryz.prog 60 = true := by kernel_rfl
theorem cl61 : callable Tryz.prog 61 = true := by kernel_rfl
theorem cl62 : callable Tryz.prog 62 = true := by kernel_rfl
theorem cl63 : callable Tryz.prog 63 = true := by kernel_rfl
theorem cl64 : callable Tryz.prog 64 = true := by kernel_rfl
theorem cl65 : callable Tryz.prog 65 = true := by kernel_rfl
theorem cl66 : callable Tryz.prog 66 = true := by kernel_rfl
theorem cl67 : callable Tryz.prog 67 = true := by kernel_rfl
theorem cl68 : callable Tryz.prog 68 = true := by kernel_rfl
theorem cl69 : callable Tryz.prog 69 = true := by kernel_rfl
theorem cl70 : callable Tryz.prog 70 = true := by kernel_rfl
theorem cl71 : callable Tryz.prog 71 = true := by kernel_rfl
theorem cl72 : callable Tryz.prog 72 = true := by kernel_rfl
theorem cl73 : callable Tryz.prog 73 = true := by kernel_rfl
theorem cl74 : callable Tryz.prog 74 = true := by kernel_rfl
theorem cl75 : callable Tryz.prog 75 = true := by kernel_rfl
theorem cl76 : callable Tryz.prog 76 = true := by kernel_rfl
theorem cl77 : callable Tryz.prog 77 = true := by kernel_rfl
theorem cl78 : callable Tryz.prog 78 = true := by kernel_rfl
theorem cl79 : callable Tryz.prog 79 = true := by kernel_rfl
theorem cl80 : callable Tryz.prog 80 = true := by kernel_rfl
theorem cl81 : callable Tryz.prog 81 = true := by kernel_rfl
theorem cl82 : callable Tryz.prog 82 = true := by kernel_rfl
theorem cl83 : callable Tryz.prog 83 = true := by kernel_rfl
theorem cl84 : callable Tryz.prog 84 = true := by kernel_rfl
theorem cl85 : callable Tryz.prog 85 = true := by kernel_rfl
theorem cl86 : callable Tryz.prog 86 = true := by kernel_rfl
theorem cl87 : callable Tryz.prog 87 = true := by kernel_rfl
theorem cl88 : callable Tryz.prog 88 = true := by kernel_rfl
theorem cl89 : callable Tryz.prog 89 = true := by kernel_rfl
theorem cl90 : callable Tryz.prog 90 = true := by kernel_rfl
theorem cl91 : callable Tryz.prog 91 = true := by kernel_rfl
theorem cl92 : callable Tryz.prog 92 = true := by kernel_rfl
theorem cl93 : callable Tryz.prog 93 = true := by kernel_rfl
theorem cl94 : callable Tryz.prog 94 = true := by kernel_rfl
theorem cl95 : callable Tryz.prog 95 = true := by kernel_rfl
theorem cl96 : callable Tryz.prog 96 = true := by kernel_rfl
theorem cl97 : callable Tryz.prog 97 = true := by kernel_rfl
theorem cl98 : callable Tryz.prog 98 = true := by kernel_rfl
theorem cl99 : callable Tryz.prog 99 = true := by kernel_rfl
theorem cl100 : callable Tryz.prog 100 = true := by kernel_rfl
theorem cl101 : callable Tryz.prog 101 = true := by kernel_rfl
theorem cl102 : callable Tryz.prog 102 = true := by kernel_rfl
theorem cl103 : callable Tryz.prog 103 = true := by kernel_rfl
theorem cl104 : callable Tryz.prog 104 = true := by kernel_rfl
theorem cl105 : callable Tryz.prog 105 = true := by kernel_rfl
theorem cl106 : callable Tryz.prog 106 = true := by kernel_rfl
theorem cl107 : callable Tryz.prog 107 = true := by kernel_rfl
theorem cl108 : callable Tryz.prog 108 = true := by kernel_rfl
theorem cl109 : callable Tryz.prog 109 = true := by kernel_rfl
theorem cl110 : callable Tryz.prog 110 = true := by kernel_rfl
theorem cl111 : callable Tryz.prog 111 = true := by kernel_rfl
theorem cl112 : callable Tryz.prog 112 = true := by kernel_rfl
theorem cl113 : callable Tryz.prog 113 = true := by kernel_rfl
theorem cl114 : callable Tryz.prog 114 = true := by kernel_rfl
theorem cl115 : callable Tryz.prog 115 = true := by kernel_rfl
theorem cl116 : callable Tryz.prog 116 = true := by kernel_rfl
theorem cl117 : callable Tryz.prog 117 = true := by kernel_rfl
theorem cl118 : callable Tryz.prog 118 = true := by kernel_rfl
theorem cl119 : callable Tryz.prog 119 = true := by kernel_rfl
theorem cl120 : callable Tryz.prog 120 = true := by kernel_rfl
theorem cl121 : callable Tryz.prog 121 = true := by kernel_rfl
theorem cl122 : callable Tryz.prog 122 = true := by kernel_rfl
theorem cl123 : callable Tryz.prog 123 = true := by kernel_rfl
theorem cl124 : callable Tryz.prog 124 = true := by kernel_rfl
theorem cl125 : callable Tryz.prog 125 = true := by kernel_rfl
theorem cl126 : callable Tryz.prog 126 = true := by kernel_rfl
theorem cl127 : callable Tryz.prog 127 = true := by kernel_rfl
theorem cl128 : callable Tryz.prog 128 = true := by kernel_rfl
theorem cl129 : callable Tryz.prog 129 = true := by kernel_rfl
theorem cl131 : callable Tryz.prog 131 = true := by kernel_rfl
theorem cl132 : callable Tryz.prog 132 = true := by kernel_rfl
theorem cl133 : callable Tryz.prog 133 = true := by kernel_rfl
theorem cl134 : callable Tryz.prog 134 = true := by kernel_rfl
theorem cl136 : callable Tryz.prog 136 = true := by kernel_rfl
theorem cl137 : callable Tryz.prog 137 = true := by kernel_rfl
theorem cl138 : callable Tryz.prog 138 = true := by kernel_rfl
theorem cl139 : callable Tryz.prog 139 = true := by kernel_rfl
theorem cl140 : callable Tryz.prog 140 = true := by kernel_rfl
theorem cl141 : callable Tryz.prog 141 = true := by kernel_rfl
theorem cl142 : callable Tryz.prog 142 = true := by kernel_rfl
theorem cl143 : callable Tryz.prog 143 = true := by kernel_rfl
theorem cl144 : callable Tryz.prog 144 = true := by kernel_rfl
theorem cl145 : callable Tryz.prog 145 = true := by kernel_rfl
theorem cl146 : callable Tryz.prog 146 = true := by kernel_rfl
theorem cl147 : callable Tryz.prog 147 = true := by kernel_rfl
theorem cl148 : callable Tryz.prog 148 = true := by kernel_rfl
theorem cl149 : callable Tryz.prog 149 = true := by kernel_rfl
theorem cl150 : callable Tryz.prog 150 = true := by kernel_rfl
theorem cl151 : callable Tryz.prog 151 = true := by kernel_rfl
theorem cl152 : callable Tryz.prog 152 = true := by kernel_rfl
theorem cl153 : callable Tryz.prog 153 = true := by kernel_rfl
theorem cl154 : callable Tryz.prog 154 = true := by kernel_rfl
theorem cl155 : callable Tryz.prog 155 = true := by kernel_rfl
theorem cl156 : callable Tryz.prog 156 = true := by kernel_rfl
theorem cl157 : callable Tryz.prog 157 = true := by kernel_rfl
theorem cl158 : callable Tryz.prog 158 = true := by kernel_rfl
theorem cl159 : callable Tryz.prog 159 = true := by kernel_rfl
theorem cl160 : callable Tryz.prog 160 = true := by kernel_rfl
theorem cl161 : callable Tryz.prog 161 = true := by kernel_rfl
theorem cl162 : callable Tryz.prog 162 = true := by kernel_rfl
theorem cl163 : callable Tryz.prog 163 = true := by kernel_rfl
theorem cl164 : callable Tryz.prog 164 = true := by kernel_rfl
theorem cl165 : callable Tryz.prog 165 = true := by kernel_rfl
theorem cl166 : callable Tryz.prog 166 = true := by kernel_rfl
theorem cl167 : callable Tryz.prog 167 = true := by kernel_rfl
theorem cl168 : callable Tryz.prog 168 = true := by kernel_rfl
theorem cl169 : callable Tryz.prog 169 = true := by kernel_rfl
theorem cl170 : callable Tryz.prog 170 = true := by kernel_rfl
theorem cl171 : callable Tryz.prog 171 = true := by kernel_rfl
theorem cl172 : callable Tryz.prog 172 = true := by kernel_rfl
theorem cl173 : callable Tryz.prog 173 = true := by kernel_rfl
theorem cl174 : callable Tryz.prog 174 = true := by kernel_rfl
theorem cl175 : callable Tryz.prog 175 = true := by kernel_rfl
theorem cl176 : callable Tryz.prog 176 = true := by kernel_rfl
theorem cl177 : callable Tryz.prog 177 = true := by kernel_rfl
theorem cl178 : callable Tryz.prog 178 = true := by kernel_rfl
theorem cl179 : callable Tryz.prog 179 = true := by kernel_rfl
theorem cl180 : callable Tryz.prog 180 = true := by kernel_rfl
theorem cl181 : callable Tryz.prog 181 = true := by kernel_rfl
theorem cl182 : callable Tryz.prog 182 = true := by kernel_rfl
theorem cl183 : callable Tryz.prog 183 = true := by kernel_rfl
theorem cl184 : callable Tryz.prog 184 = true := by kernel_rfl
theorem cl185 : callable Tryz.prog 185 = true := by kernel_rfl
theorem cl186 : callable Tryz.prog 186 = true := by kernel_rfl
theorem cl187 : callable Tryz.prog 187 = true := by kernel_rfl
theorem cl189 : callable Tryz.prog 189 = true := by kernel_rfl
theorem cl190 : callable Tryz.prog 190 = true := by kernel_rfl
theorem cl192 : callable Tryz.prog 192 = true := by kernel_rfl
theorem cl193 : callable Tryz.prog 193 = true := by kernel_rfl
theorem cl194 : callable Tryz.prog 194 = true := by kernel_rfl
theorem cl195 : callable Tryz.prog 195 = true := by kernel_rfl
theorem cl196 : callable Tryz.prog 196 = true := by kernel_rfl
theorem cl197 : callable Tryz.prog 197 = true := by kernel_rfl
theorem cl198 : callable Tryz.prog 198 = true := by kernel_rfl
theorem cl199 : callable Tryz.prog 199 = true := by kernel_rfl
theorem cl200 : callable Tryz.prog 200 = true := by kernel_rfl
theorem cl201 : callable Tryz.prog 201 = true := by kernel_rfl
theorem cl202 : callable Tryz.prog 202 = true := by kernel_rfl
theorem cl203 : callable Tryz.prog 203 = true := by kernel_rfl
theorem cl204 : callable Tryz.prog 204 = true := by kernel_rfl
theorem cl207 : callable Tryz.prog 207 = true := by kernel_rfl
theorem cl208 : callable Tryz.prog 208 = true := by kernel_rfl
theorem cl209 : callable Tryz.prog 209 = true := by kernel_rfl
theorem cl210 : callable Tryz.prog 210 = true := by kernel_rfl
theorem cl211 : callable Tryz.prog 211 = true := by kernel_rfl
theorem cl212 : callable Tryz.prog 212 = true := by kernel_rfl
theorem cl213 : callable Tryz.prog 213 = true := by kernel_rfl
theorem cl214 : callable Tryz.prog 214 = true := by kernel_rfl
theorem cl215 : callable Tryz.prog 215 = true := by kernel_rfl
theorem cl216 : callable Tryz.prog 216 = true := by kernel_rfl
theorem cl217 : callable Tryz.prog 217 = true := by kernel_rfl
theorem cl218 : callable Tryz.prog 218 = true := by kernel_rfl
theorem cl219 : callable Tryz.prog 219 = true := by kernel_rfl
theorem cl220 : callable Tryz.prog 220 = true := by kernel_rfl
theorem cl221 : callable Tryz.prog 221 = true := by kernel_rfl
theorem cl222 : callable Tryz.prog 222 = true := by kernel_rfl
theorem cl223 : callable Tryz.prog 223 = true := by kernel_rfl
theorem cl224 : callable Tryz.prog 224 = true := by kernel_rfl
theorem cl225 : callable Tryz.prog 225 = true := by kernel_rfl
theorem cl226 : callable Tryz.prog 226 = true := by kernel_rfl
theorem cl227 : callable Tryz.prog 227 = true := by kernel_rfl
theorem cl228 : callable Tryz.prog 228 = true := by kernel_rfl
theorem cl229 : callable Tryz.prog 229 = true := by kernel_rfl
theorem cl230 : callable Tryz.prog 230 = true := by kernel_rfl
theorem cl231 : callable Tryz.prog 231 = true := by kernel_rfl
theorem cl232 : callable Tryz.prog 232 = true := by kernel_rfl
theorem cl233 : callable Tryz.prog 233 = true := by kernel_rfl
theorem cl234 : callable Tryz.prog 234 = true := by kernel_rfl
theorem cl235 : callable Tryz.prog 235 = true := by kernel_rfl
theorem cl236 : callable Tryz.prog 236 = true := by kernel_rfl
theorem cl237 : callable Tryz.prog 237 = true := by kernel_rfl
theorem cl238 : callable Tryz.prog 238 = true := by kernel_rfl
theorem cl239 : callable Tryz.prog 239 = true := by kernel_rfl
theorem cl240 : callable Tryz.prog 240 = true := by kernel_rfl
theorem cl241 : callable Tryz.prog 241 = true := by kernel_rfl
theorem cl242 : callable Tryz.prog 242 = true := by kernel_rfl
theorem cl243 : callable Tryz.prog 243 = true := by kernel_rfl
theorem cl244 : callable Tryz.prog 244 = true := by kernel_rfl
theorem cl245 : callable Tryz.prog 245 = true := by kernel_rfl
theorem cl246 : callable Tryz.prog 246 = true := by kernel_rfl
theorem cl247 : callable Tryz.prog 247 = true := by kernel_rfl
theorem cl248 : callable Tryz.prog 248 = true := by kernel_rfl
theorem cl249 : callable Tryz.prog 249 = true := by kernel_rfl
theorem cl250 : callable Tryz.prog 250 = true := by kernel_rfl
theorem cl251 : callable Tryz.prog 251 = true := by kernel_rfl
theorem cl252 : callable Tryz.prog 252 = true := by kernel_rfl
theorem cl253 : callable Tryz.prog 253 = true := by kernel_rfl
theorem cl254 : callable Tryz.prog 254 = true := by kernel_rfl
theorem cl255 : callable Tryz.prog 255 = true := by kernel_rfl
theorem cl256 : callable Tryz.prog 256 = true := by kernel_rfl
theorem cl257 : callable Tryz.prog 257 = true := by kernel_rfl
theorem cl258 : callable Tryz.prog 258 = true := by kernel_rfl
theorem cl259 : callable Tryz.prog 259 = true := by kernel_rfl
theorem tz3 : tzero Tryz.prog 3 = some [.v (.int .i64 0)] := by kernel_rfl
theorem tz26 : tzero Tryz.prog 26 = some [.nilS, .nilS, .nilS, .v (.int .i64 0), .v (.int .i64 0)] := by kernel_rfl
theorem tz45 : tzero Tryz.prog 45 = some [.v (.int .i64 0), .v (.int .i64 0)] := by kernel_rfl
theorem tz49 : tzero Tryz.prog 49 = some [.v (.string ⟨#[]⟩), .v (.string ⟨#[]⟩), .v (.int .i64 0), .v (.int .i64 0), .v (.bool false)] := by kernel_rfl
theorem tz58 : tzero Tryz.prog 58 = some [.nilS, .nilS, .v (.bool false), .v (.int .i64 0), .v (.int .i64 0)] := by kernel_rfl
theorem tz63 : tzero Tryz.prog 63 = some [.v (.string ⟨#[]⟩), .v (.string ⟨#[]⟩), .v (.int .i64 0), .v (.int .i64 0), .v (.int .i64 0), .v (.int .i64 0)] := by kernel_rfl
theorem tz65 : tzero Tryz.prog 65 = some [.v (.string ⟨#[]⟩), .v (.string ⟨#[]⟩), .v (.string ⟨#[]⟩), .v (.bool false), .v (.int .i64 0), .v (.int .i64 0), .v (.int .i64 0), .v (.bool false)] := by kernel_rfl
theorem tz69 : tzero Tryz.prog 69 = some [.v (.string ⟨#[]⟩), .v (.string ⟨#[]⟩), .v (.string ⟨#[]⟩), .v (.string ⟨#[]⟩), .v (.string ⟨#[]⟩), .v (.int .i64 0), .v (.bool false), .v (.int .i64 0), .v (.int .i64 0), .v (.int .i64 0)] := by kernel_rfl
theorem tz86 : tzero Tryz.prog 86 = some [.nilS, .nilS, .nilS, .v (.int .i64 0), .v (.int .i64 0), .nilS, .v (.int .i64 0), .v (.bool false)] := by kernel_rfl
theorem tz106 : tzero Tryz.prog 106 = some [.v (.string ⟨#[]⟩), .v (.string ⟨#[]⟩), .v (.string ⟨#[]⟩), .v (.string ⟨#[]⟩), .v (.bool false), .v (.int .i64 0), .v (.int .i64 0), .v (.int .i64 0), .v (.bool false)] := by kernel_rfl
theorem tz169 : tzero Tryz.prog 169 = some [.v (.int .i64 0), .v (.bool false), .v (.bool false), .v (.int .i64 0)] := by kernel_rfl
theorem tz176 : tzero Tryz.prog 176 = some [.v (.string ⟨#[]⟩), .v (.string ⟨#[]⟩)] := by kernel_rfl
theorem tz222 : tzero Tryz.prog 222 = some [.v (.bool false), .v (.bool false), .v (.bool false), .v (.bool false), .v (.bool false)] := by kernel_rfl
theorem tz243 : tzero Tryz.prog 243 = some [.v (.int .u64 0)] := by kernel_rfl
theorem bs26 : buildS Tryz.prog 26 = some [(0, 1), (1, 1), (2, 1), (3, 1), (4, 1)] := by kernel_rfl
theorem bs45 : buildS Tryz.prog 45 = some [(0, 1), (1, 1)] := by kernel_rfl
theorem bs49 : buildS Tryz.prog 49 = some [(0, 1), (1, 1), (2, 1), (3, 1), (4, 1)] := by kernel_rfl
theorem bs58 : buildS Tryz.prog 58 = some [(0, 1), (1, 1), (2, 1), (3, 1), (4, 1)] := by kernel_rfl
theorem bs63 : buildS Tryz.prog 63 = some [(0, 1), (1, 1), (2, 1), (3, 1), (4, 1), (5, 1)] := by kernel_rfl
theorem bs65 : buildS Tryz.prog 65 = some [(0, 1), (1, 1), (2, 1), (3, 1), (4, 1), (5, 1), (6, 1), (7, 1)] := by kernel_rfl
theorem bs69 : buildS Tryz.prog 69 = some [(0, 1), (1, 1), (2, 1), (3, 1), (4, 1), (5, 1), (6, 1), (7, 1), (8, 1), (9, 1)] := by kernel_rfl
theorem bs106 : buildS Tryz.prog 106 = some [(0, 1), (1, 1), (2, 1), (3, 1), (4, 1), (5, 1), (6, 1), (7, 1), (8, 1)] := by kernel_rfl
theorem bs169 : buildS Tryz.prog 169 = some [(0, 1), (1, 1), (2, 1), (3, 1)] := by kernel_rfl
theorem bs176 : buildS Tryz.prog 176 = some [(0, 1), (1, 1)] := by kernel_rfl
theorem ud2 : Tryz.prog.underlying 2 = some (.int (Go.IntKind.i64)) := by kernel_rfl
theorem ud3 : Tryz.prog.underlying 3 = some (.int (Go.IntKind.i64)) := by kernel_rfl
theorem ud4 : Tryz.prog.underlying 4 = some (.bool) := by kernel_rfl
theorem ud5 : Tryz.prog.underlying 5 = some (.int (Go.IntKind.u8)) := by kernel_rfl
theorem ud9 : Tryz.prog.underlying 9 = some (.string) := by kernel_rfl
theorem ud22 : Tryz.prog.underlying 22 = some (.slice 65) := by kernel_rfl
theorem ud23 : Tryz.prog.underlying 23 = some (.slice 106) := by kernel_rfl
theorem ud24 : Tryz.prog.underlying 24 = some (.slice 9) := by kernel_rfl
theorem ud27 : Tryz.prog.underlying 27 = some (.slice 49) := by kernel_rfl
theorem ud31 : Tryz.prog.underlying 31 = some (.slice 27) := by kernel_rfl
theorem ud32 : Tryz.prog.underlying 32 = some (.int (Go.IntKind.i64)) := by kernel_rfl
theorem ud53 : Tryz.prog.underlying 53 = some (.int (Go.IntKind.u32)) := by kernel_rfl
theorem ud54 : Tryz.prog.underlying 54 = some (.int (Go.IntKind.u16)) := by kernel_rfl
theorem ud55 : Tryz.prog.underlying 55 = some (.slice 86) := by kernel_rfl
theorem ud56 : Tryz.prog.underlying 56 = some (.slice 63) := by kernel_rfl
theorem ud73 : Tryz.prog.underlying 73 = some (.slice 77) := by kernel_rfl
theorem ud91 : Tryz.prog.underlying 91 = some (.slice 69) := by kernel_rfl
theorem ud92 : Tryz.prog.underlying 92 = some (.slice 4) := by kernel_rfl
theorem ud174 : Tryz.prog.underlying 174 = some (.slice 176) := by kernel_rfl
theorem ud187 : Tryz.prog.underlying 187 = some (.slice 2) := by kernel_rfl
theorem ud201 : Tryz.prog.underlying 201 = some (.int (Go.IntKind.u64)) := by kernel_rfl
theorem ud205 : Tryz.prog.underlying 205 = some (.int (Go.IntKind.u64)) := by kernel_rfl
theorem ud217 : Tryz.prog.underlying 217 = some (.slice 3) := by kernel_rfl
theorem ud222 : Tryz.prog.underlying 222 = some (.array 5 4) := by kernel_rfl
theorem ud225 : Tryz.prog.underlying 225 = some (.int (Go.IntKind.i64)) := by kernel_rfl
theorem ud243 : Tryz.prog.underlying 243 = some (.int (Go.IntKind.u64)) := by kernel_rfl
attribute [go_sem] ld2 ld3 ld4 ld5 ld9 ld22 ld23 ld24 ld26 ld27 ld45 ld49 ld55 ld56 ld58 ld63 ld65 ld69 ld77 ld86 ld106 ld176 ld243 fi26_0 fi26_1 fi26_2 fi26_3 fi26_4 fi45_0 fi45_1 fi49_0 fi49_1 fi49_2 fi49_3 fi49_4 fi58_0 fi58_1 fi58_2 fi58_3 fi58_4 fi63_0 fi63_1 fi63_2 fi63_3 fi63_4 fi63_5 fi65_0 fi65_1 fi65_2 fi65_3 fi65_4 fi65_5 fi65_6 fi65_7 fi69_0 fi69_1 fi69_2 fi69_3 fi69_4 fi69_5 fi69_6 fi69_7 fi69_8 fi69_9 fi77_0 fi77_1 fi77_2 fi77_3 fi77_4 fi77_5 fi77_6 fi77_7 fi86_0 fi86_1 fi86_2 fi86_3 fi106_0 fi106_1 fi106_2 fi106_3 fi106_4 fi106_5 fi106_6 fi106_7 fi106_8 fi169_0 fi169_1 fi169_2 fi169_3 fi176_0 fi176_1 ix22 ix23 ix24 ix27 ix31 ix55 ix56 ix73 ix91 ix92 ix174 ix187 ix217 ix222 ap22 ap23 ap24 ap27 ap31 ap55 ap56 ap174 ap187 ap217 sz2 sz3 sz4 sz9 sz22 sz23 sz24 sz26 sz27 sz45 sz49 sz55 sz56 sz58 sz63 sz65 sz69 sz77 sz86 sz106 sz169 sz176 sz222 sz243 sr22 sr23 sr24 sr27 sr31 sr55 sr56 sr174 sr187 fk45 fk49 fk63 fk65 fk106 fk176 cl10 cl11 cl12 cl13 cl14 cl15 cl16 cl17 cl18 cl19 cl20 cl21 cl22 cl23 cl24 cl25 cl26 cl27 cl28 cl29 cl30 cl31 cl32 cl33 cl34 cl35 cl36 cl37 cl38 cl39 cl40 cl41 cl42 cl43 cl44 cl45 cl46 cl47 cl48 cl49 cl50 cl51 cl52 cl53 cl54 cl55 cl56 cl57 cl58 cl59 cl60 cl61 cl62 cl63 cl64 cl65 cl66 cl67 cl68 cl69 cl70 cl71 cl72 cl73 cl74 cl75 cl76 cl77 cl78 cl79 cl80 cl81 cl82 cl83 cl84 cl85 cl86 cl87 cl88 cl89 cl90 cl91 cl92 cl93 cl94 cl95 cl96 cl97 cl98 cl99 cl100 cl101 cl102 cl103 cl104 cl105 cl106 cl107 cl108 cl109 cl110 cl111 cl112 cl113 cl114 cl115 cl116 cl117 cl118 cl119 cl120 cl121 cl122 cl123 cl124 cl125 cl126 cl127 cl128 cl129 cl131 cl132 cl133 cl134 cl136 cl137 cl138 cl139 cl140 cl141 cl142 cl143 cl144 cl145 cl146 cl147 cl148 cl149 cl150 cl151 cl152 cl153 cl154 cl155 cl156 cl157 cl158 cl159 cl160 cl161 cl162 cl163 cl164 cl165 cl166 cl167 cl168 cl169 cl170 cl171 cl172 cl173 cl174 cl175 cl176 cl177 cl178 cl179 cl180 cl181 cl182 cl183 cl184 cl185 cl186 cl187 cl189 cl190 cl192 cl193 cl194 cl195 cl196 cl197 cl198 cl199 cl200 cl201 cl202 cl203 cl204 cl207 cl208 cl209 cl210 cl211 cl212 cl213 cl214 cl215 cl216 cl217 cl218 cl219 cl220 cl221 cl222 cl223 cl224 cl225 cl226 cl227 cl228 cl229 cl230 cl231 cl232 cl233 cl234 cl235 cl236 cl237 cl238 cl239 cl240 cl241 cl242 cl243 cl244 cl245 cl246 cl247 cl248 cl249 cl250 cl251 cl252 cl253 cl254 cl255 cl256 cl257 cl258 cl259 tz3 tz26 tz45 tz49 tz58 tz63 tz65 tz69 tz86 tz106 tz169 tz176 tz222 tz243 bs26 bs45 bs49 bs58 bs63 bs65 bs69 bs106 bs169 bs176 ud2 ud3 ud4 ud5 ud9 ud22 ud23 ud24 ud27 ud31 ud32 ud53 ud54 ud55 ud56 ud73 ud91 ud92 ud174 ud187 ud201 ud205 ud217 ud222 ud225 ud243
end Go.Proofs.YtajeeghgiilhiaaGreat
end
section
namespace Go.Proofs.YtajeeghgiilhiaaGreat
open Go Go.Abs Go.RowKit Go.Bk
noncomputable def E : Env := { P := Tryz.prog, ok := fun _ => True, mono := fun _ _ _ h => h, gl := fun _ => none }
noncomputable def ED : Env := { P := Tryz.prog, ok := fun _ => True, mono := fun _ _ _ h => h, gl := fun _ => none, dr := True }
@[go_sem] theorem ED_P : ED.P = Tryz.prog := rfl
@[go_sem] theorem ED_gl : ED.gl = fun _ => none := rfl
@[go_sem] theorem E_P : E.P = Tryz.prog := rfl
@[go_sem] theorem E_gl : E.gl = fun _ => none := rfl
abbrev odV (o : Od) : AV := .agg [str o.id, str o.acc, str o.sym, bl o.buy, i64 o.qty, i64 o.price, i64 o.done, bl o.opn]
abbrev exV (x : Ex) : AV := .agg [str x.id, str x.ref, str x.ord, str x.acc, str x.sym, i64 x.kind, bl x.buy, i64 x.qty, i64 x.price, i64 x.time]
abbrev dnV (f : Dn) : AV := .agg [str f.id, str f.ord, str f.acc, str f.sym, bl f.buy, i64 f.qty, i64 f.price, i64 f.time, bl f.live]
abbrev odsV (l : List Od) : AV := .sl none 8 (l.map odV)
abbrev dnsV (l : List Dn) : AV := .sl none 9 (l.map dnV)
theorem cl_str (s : Bs) : ∀ x ∈ (AV.agg [str s]).leaves, x.clean1 = some x := by
 intro x hx
 simp only [AV.leaves, List.mem_cons, List.not_mem_nil, or_false] at hx
 subst hx; rfl
theorem cl_od (l : List Od) : ∀ e ∈ l.map odV, ∀ x ∈ e.leaves, x.clean1 = some x := by
 intro e he x hx
 obtain ⟨o, _, rfl⟩ := List.mem_map.1 he
 simp only [AV.leaves, List.mem_cons, List.not_mem_nil, or_false] at hx
 rcases hx with rfl | rfl | rfl | rfl | rfl | rfl | rfl | rfl <;> rfl
theorem cl_dn (l : List Dn) : ∀ e ∈ l.map dnV, ∀ x ∈ e.leaves, x.clean1 = some x := by
 intro e he x hx
 obtain ⟨o, _, rfl⟩ := List.mem_map.1 he
 simp only [AV.leaves, List.mem_cons, List.not_mem_nil, or_false] at hx
 rcases hx with rfl | rfl | rfl | rfl | rfl | rfl | rfl | rfl | rfl <;> rfl
theorem cl_ex (x : Ex) : ∀ y ∈ (exV x).leaves, y.clean1 = some y := by
 intro y hx
 simp only [AV.leaves, List.mem_cons, List.not_mem_nil, or_false] at hx
 rcases hx with rfl | rfl | rfl | rfl | rfl | rfl | rfl | rfl | rfl | rfl <;> rfl
theorem pl_od (l : List Od) : ∀ e ∈ l.map odV, e.leaves.length = 8 ∧ ∀ y ∈ e.leaves, ∃ z, y = .v z := by
 intro e he
 obtain ⟨o, _, rfl⟩ := List.mem_map.1 he
 refine ⟨rfl, fun x hx => ?_⟩
 simp only [AV.leaves, List.mem_cons, List.not_mem_nil, or_false] at hx
 rcases hx with rfl | rfl | rfl | rfl | rfl | rfl | rfl | rfl <;> exact ⟨_, rfl⟩
theorem od_get {l : List Od} {n : Nat} {o : Od} (h : l[n]? = some o) (sp : List AV) : (l.map odV ++ sp)[n]? = some (odV o) := by
 have hn : n < l.length := by
   rcases Nat.lt_or_ge n l.length with h' | h'
   · exact h'
   · rw [List.getElem?_eq_none h'] at h; simp at h
 rw [List.getElem?_append_left (by simpa using hn), List.getElem?_map, h]; rfl
theorem od_set {l : List Od} {n : Nat} {o o' : Od} (h : l[n]? = some o) (sp : List AV) : (l.map odV ++ sp).set n (odV o') = (l.set n o').map odV ++ sp := by
 have hn : n < l.length := by
   rcases Nat.lt_or_ge n l.length with h' | h'
   · exact h'
   · rw [List.getElem?_eq_none h'] at h; simp at h
 rw [List.set_append_left _ _ (by simpa using hn), List.map_set]
theorem left_yes {o : Od} (h1 : mayB o = true) (h2 : o.opn = true) : IntKind.i64.wrap (o.qty - o.done) = leftF o := by
 have h := h1
 simp only [mayB, smallB, Bool.and_eq_true, decide_eq_true_eq] at h
 rw [wrap64_id (by omega) (by omega)]
 simp [leftF, h1, h2]
end Go.Proofs.YtajeeghgiilhiaaGreat
end
section
namespace Go.Proofs.YtajeeghgiilhiaaGreat
open Go Go.Abs Go.RowKit Go.Bk
set_option maxHeartbeats 4000000 in
set_option maxRecDepth 8000 in
theorem msmall_c (n : Int) : ACalls E 171 [i64 n] (fun r t => r = bl (smallB n) ∧ t = []) := by
 refine ACalls.of_awp (n := 9) (rs := [.tmp 2]) Tryz.func171 rfl Tryz.ntmps171 rfl ?_
 refine AWP.seqk fun K1 hK1 => ?_
 refine AWP.region ?_
 simp only [go_sem]
 repeat' (first | fail)
 refine hK1 _ ?_; clear hK1 K1
 refine AWP.seqk fun K2 hK2 => ?_
 refine AWP.region ?_
 simp only [go_sem]
 repeat' (first | (refine AGuard.split (fun h => ?_) (fun h => ?_) <;> simp only [h, go_sem] <;> try simp only [dD] at h) | fail)
 all_goals (
   refine hK2 _ ?_; clear hK2 K2
   refine AWP.ret ?_
   try simp only [go_sem]
   exact ⟨[], .v _, rfl, rfl, by simp_all [smallB] <;> omega, rfl⟩)
set_option maxHeartbeats 4000000 in
set_option maxRecDepth 8000 in
theorem mwhen_c (n : Int) : ACalls E 172 [i64 n] (fun r t => r = bl (whenB n) ∧ t = []) := by
 refine ACalls.of_awp (n := 9) (rs := [.tmp 2]) Tryz.func172 rfl Tryz.ntmps172 rfl ?_
 refine AWP.seqk fun K1 hK1 => ?_
 refine AWP.region ?_
 simp only [go_sem]
 repeat' (first | fail)
 refine hK1 _ ?_; clear hK1 K1
 refine AWP.seqk fun K2 hK2 => ?_
 refine AWP.region ?_
 simp only [go_sem]
 repeat' (first | (refine AGuard.split (fun h => ?_) (fun h => ?_) <;> simp only [h, go_sem] <;> try simp only [dD] at h) | fail)
 all_goals (
   refine hK2 _ ?_; clear hK2 K2
   refine AWP.ret ?_
   try simp only [go_sem]
   exact ⟨[], .v _, rfl, rfl, by simp_all [whenB] <;> omega, rfl⟩)
set_option maxHeartbeats 4000000 in
set_option maxRecDepth 8000 in
theorem onamed_c (s : Bs) : ACalls E 150 [str s] (fun r t => r = bl (namedB s) ∧ t = []) := by
 refine ACalls.of_awp (n := 10) (rs := [.tmp 2]) Tryz.func150 rfl Tryz.ntmps150 rfl ?_
 refine AWP.seqk fun K1 hK1 => ?_
 refine AWP.region ?_
 simp only [go_sem]
 repeat' (first | fail)
 refine hK1 _ ?_; clear hK1 K1
 refine AWP.seqk fun K2 hK2 => ?_
 refine AWP.region ?_
 simp only [go_sem]
 repeat' (first | (refine AGuard.splitN (fun h => ?_) (fun h => ?_) <;> simp only [h, go_sem] <;> try simp only [dD] at h) | fail)
 all_goals (
   refine hK2 _ ?_; clear hK2 K2
   refine AWP.ret ?_
   try simp only [go_sem]
   exact ⟨[], .v _, rfl, rfl, by simp_all [namedB] <;> omega, rfl⟩)
set_option maxHeartbeats 4000000 in
set_option maxRecDepth 8000 in
theorem oamount_c (n : Int) : ACalls E 151 [i64 n] (fun r t => r = bl (smallB n) ∧ t = []) := by
 refine ACalls.of_awp (n := 9) (rs := [.tmp 2]) Tryz.func151 rfl Tryz.ntmps151 rfl ?_
 refine AWP.seqk fun K1 hK1 => ?_
 refine AWP.region ?_
 simp only [go_sem]
 repeat' (first | fail)
 refine hK1 _ ?_; clear hK1 K1
 refine AWP.seqk fun K2 hK2 => ?_
 refine AWP.region ?_
 simp only [go_sem]
 repeat' (first | (refine AGuard.split (fun h => ?_) (fun h => ?_) <;> simp only [h, go_sem] <;> try simp only [dD] at h) | fail)
 all_goals (
   refine hK2 _ ?_; clear hK2 K2
   refine AWP.ret ?_
   try simp only [go_sem]
   exact ⟨[], .v _, rfl, rfl, by simp_all [smallB] <;> omega, rfl⟩)
set_option maxHeartbeats 4000000 in
set_option maxRecDepth 8000 in
theorem bamount_c (n : Int) : ACalls E 101 [i64 n] (fun r t => r = bl (smallB n) ∧ t = []) := by
 refine ACalls.of_awp (n := 9) (rs := [.tmp 2]) Tryz.func101 rfl Tryz.ntmps101 rfl ?_
 refine AWP.seqk fun K1 hK1 => ?_
 refine AWP.region ?_
 simp only [go_sem]
 repeat' (first | fail)
 refine hK1 _ ?_; clear hK1 K1
 refine AWP.seqk fun K2 hK2 => ?_
 refine AWP.region ?_
 simp only [go_sem]
 repeat' (first | (refine AGuard.split (fun h => ?_) (fun h => ?_) <;> simp only [h, go_sem] <;> try simp only [dD] at h) | fail)
 all_goals (
   refine hK2 _ ?_; clear hK2 K2
   refine AWP.ret ?_
   try simp only [go_sem]
   exact ⟨[], .v _, rfl, rfl, by simp_all [smallB] <;> omega, rfl⟩)
set_option maxHeartbeats 4000000 in
set_option maxRecDepth 8000 in
theorem mname_c (s : Bs) : ACalls E 170 [str s] (fun r t => r = bl (nameB s) ∧ t = []) := by
 refine ACalls.of_awp (n := 45) (rs := [.tmp 2]) Tryz.func170 rfl Tryz.ntmps170 rfl ?_
 refine AWP.seqk fun K1 hK1 => ?_
 refine AWP.region ?_
 simp only [go_sem]
 repeat' (first | fail)
 refine hK1 _ ?_; clear hK1 K1
 refine AWP.seqk fun K2 hK2 => ?_
 refine AWP.seqk fun K3 hK3 => ?_
 refine AWP.region ?_
 simp only [go_sem]
 repeat' (first | (refine AGuard.splitN (fun h => ?_) (fun h => ?_) <;> simp only [h, go_sem] <;> try simp only [dD] at h) | fail)
 all_goals (
   refine hK3 _ ?_; clear hK3 K3
   refine AWP.cond rfl (fun c12 => ?_) (fun c12 => ?_)
   · first | (
       try simp only [dD] at c12
       refine AWP.seqk fun K4 hK4 => ?_
       refine AWP.region ?_
       simp only [go_sem]
       repeat' (first | fail)
       refine hK4 _ ?_; clear hK4 K4
       refine AWP.ret ?_
       try simp only [go_sem]
       clear hK2 K2
       first
       | exact ⟨[], .v _, rfl, rfl, congrArg bl (name_no1 (by omega)).symm, rfl⟩
       | fail)
   · first | exact Bool.noConfusion c12 | (
       try simp only [dD] at c12
       refine AWP.skip ?_
       refine hK2 _ ?_; clear hK2 K2
       refine AWP.seqk fun K5 hK5 => ?_
       refine AWP.seqk fun K6 hK6 => ?_
       refine AWP.region ?_
       simp only [go_sem]
       repeat' (first | fail)
       refine hK6 _ ?_; clear hK6 K6
       refine AWP.block ?_
       refine AWP.loopH (ι := Nat) [2, 3, 4, 16, 17, 18, 19, 20, 21, 22, 23, 24, 25, 26, 27, 28, 29, 30, 31, 32, 33, 34, 35, 36, 37, 38, 39, 40, 41, 42, 43, 44] (fun (i : Nat) => [(15, i64 i)]) (fun (i : Nat) => i ≤ s.length ∧ s.length ≤ 16 ∧ (s.take i).all isName = true) (fun (i : Nat) => s.length - i) (0) ?_ ?_ ?_
       · (try simp only [go_sem]); try (simp; done)
       · exact ⟨by omega, by omega, by simp⟩
       rintro i ⟨h1, h2, h3⟩
       simp only [go_sem]
       refine AWP.seqk fun K7 hK7 => ?_
       refine AWP.region ?_
       simp only [go_sem]
       repeat' (first | fail)
       refine hK7 _ ?_; clear hK7 K7
       refine AWP.seqk fun K8 hK8 => ?_
       refine AWP.cond rfl (fun c16 => ?_) (fun c16 => ?_)
       · first | (
           try simp only [dD] at c16
           refine AWP.skip ?_
           refine hK8 _ ?_; clear hK8 K8
           refine AWP.seqk fun K9 hK9 => ?_
           refine AWP.block ?_
           refine AWP.seqk fun K10 hK10 => ?_
           refine AWP.region ?_
           simp only [go_sem]
           repeat' (first | fail)
           refine hK10 _ ?_; clear hK10 K10
           refine AWP.seqk fun K11 hK11 => ?_
           refine AWP.region ?_
           simp only [go_sem]
           repeat' (first | ((first | refine AGet.nth1 ?_ (fun b hb => ?_) | fail); (focus ((first | omega | fail))); (try simp only [hb, go_sem])))
           refine hK11 _ ?_; clear hK11 K11
           refine AWP.seqk fun K12 hK12 => ?_
           refine AWP.region ?_
           simp only [go_sem]
           repeat' (first | (refine AGuard.splitN (fun h => ?_) (fun h => ?_) <;> simp only [h, go_sem] <;> try simp only [dD] at h) | (refine AGuard.split (fun h => ?_) (fun h => ?_) <;> simp only [h, go_sem] <;> try simp only [dD] at h) | fail)
           all_goals (
             refine hK12 _ ?_; clear hK12 K12
             refine AWP.cond rfl (fun c43 => ?_) (fun c43 => ?_)
             · first | exact Bool.noConfusion c43 | (
                 try simp only [dD] at c43
                 refine AWP.seqk fun K13 hK13 => ?_
                 refine AWP.region ?_
                 simp only [go_sem]
                 repeat' (first | fail)
                 refine hK13 _ ?_; clear hK13 K13
                 refine AWP.ret ?_
                 try simp only [go_sem]
                 clear hK9 K9 hK5 K5
                 first
                 | exact ⟨[], .v _, rfl, rfl, congrArg bl (name_no1 (by omega)).symm, rfl⟩
                 | exact ⟨[], .v _, rfl, rfl, congrArg bl (name_no2 hb (by simp only [isName]; simp; omega)).symm, rfl⟩
                 | fail)
             · first | exact Bool.noConfusion c43 | (
                 try simp only [dD] at c43
                 refine AWP.skip ?_
                 refine hK9 _ ?_; clear hK9 K9
                 refine AWP.region ?_
                 simp only [go_sem]
                 repeat' (first | fail)
                 clear hK5 K5
                 refine ⟨i + 1, ?_, ?_, ?_⟩
                 · (try simp only [go_sem]); (try rw [wrap64_id (by omega) (by omega)]); simp
                 · exact ⟨by omega, by omega, all_next hb h3 (by simp only [isName]; simp; omega)⟩
                 · omega)))
       · first | (
           try simp only [dD] at c16
           refine AWP.exit ?_
           simp only [go_sem]
           clear hK8 K8
           refine hK5 _ ?_; clear hK5 K5
           refine AWP.seqk fun K14 hK14 => ?_
           refine AWP.region ?_
           simp only [go_sem]
           repeat' (first | fail)
           refine hK14 _ ?_; clear hK14 K14
           refine AWP.ret ?_
           try simp only [go_sem]
           first
           | exact ⟨[], .v _, rfl, rfl, congrArg bl (name_yes (by omega) (by omega) h3).symm, rfl⟩
           | fail)))
set_option maxHeartbeats 4000000 in
set_option maxRecDepth 8000 in
theorem omay_c (o : Od) : ACalls E 79 [odV o] (fun r t => r = bl (mayB o) ∧ t = []) := by
 refine ACalls.of_awp (n := 38) (rs := [.tmp 2]) Tryz.func79 rfl Tryz.ntmps79 rfl ?_
 refine AWP.seqk fun K1 hK1 => ?_
 refine AWP.region ?_
 simp only [go_sem]
 repeat' (first | fail)
 refine hK1 _ ?_; clear hK1 K1
 refine AWP.seqk fun K2 hK2 => ?_
 refine AWP.region ?_
 simp only [go_sem]
 repeat' (first | (refine ACall.one (onamed_c _) (by kernel_rfl) rfl ?_; simp only [go_sem]) | (refine ACall.one (oamount_c _) (by kernel_rfl) rfl ?_; simp only [go_sem]) | (refine AGuard.split (fun h => ?_) (fun h => ?_) <;> simp only [h, go_sem] <;> try simp only [dD] at h) | fail)
 all_goals (
   refine hK2 _ ?_; clear hK2 K2
   refine AWP.ret ?_
   try simp only [go_sem]
   exact ⟨[], .v _, rfl, rfl, by (simp_all [mayB] <;> (intros; omega)), rfl⟩)
set_option maxHeartbeats 4000000 in
set_option maxRecDepth 8000 in
theorem oleft_c (o : Od) : ACalls E 111 [odV o] (fun r t => r = i64 (leftF o) ∧ t = []) := by
 refine ACalls.of_awp (n := 16) (rs := [.tmp 2]) Tryz.func111 rfl Tryz.ntmps111 rfl ?_
 refine AWP.seqk fun K1 hK1 => ?_
 refine AWP.region ?_
 simp only [go_sem]
 repeat' (first | fail)
 refine hK1 _ ?_; clear hK1 K1
 refine AWP.seqk fun K2 hK2 => ?_
 refine AWP.seqk fun K3 hK3 => ?_
 refine AWP.region ?_
 simp only [go_sem]
 repeat' (first | (refine ACall.one (omay_c _) (by kernel_rfl) rfl ?_; simp only [go_sem]) | (refine AGuard.split (fun h => ?_) (fun h => ?_) <;> simp only [h, go_sem] <;> try simp only [dD] at h) | fail)
 all_goals (
   refine hK3 _ ?_; clear hK3 K3
   refine AWP.cond rfl (fun c10 => ?_) (fun c10 => ?_)
   · first | (
       try simp only [dD] at c10
       refine AWP.seqk fun K4 hK4 => ?_
       refine AWP.region ?_
       simp only [go_sem]
       repeat' (first | fail)
       refine hK4 _ ?_; clear hK4 K4
       refine AWP.ret ?_
       try simp only [go_sem]
       clear hK2 K2
       exact ⟨[], .v _, rfl, rfl, by (first | (simp_all [leftF]; done) | fail), rfl⟩)
   · first | exact Bool.noConfusion c10 | (
       try simp only [dD] at c10
       refine AWP.skip ?_
       refine hK2 _ ?_; clear hK2 K2
       refine AWP.seqk fun K5 hK5 => ?_
       refine AWP.region ?_
       simp only [go_sem]
       repeat' (first | fail)
       refine hK5 _ ?_; clear hK5 K5
       refine AWP.ret ?_
       try simp only [go_sem]
       exact ⟨[], .v _, rfl, rfl, by (first | (rw [left_yes (by assumption) (by assumption)])), rfl⟩))
set_option maxHeartbeats 4000000 in
set_option maxRecDepth 8000 in
theorem ofair_c (o : Od) (p : Int) : ACalls E 255 [odV o, i64 p] (fun r t => r = bl (fairF o p) ∧ t = []) := by
 refine ACalls.of_awp (n := 18) (rs := [.tmp 4]) Tryz.func255 rfl Tryz.ntmps255 rfl ?_
 refine AWP.seqk fun K1 hK1 => ?_
 refine AWP.region ?_
 simp only [go_sem]
 repeat' (first | fail)
 refine hK1 _ ?_; clear hK1 K1
 refine AWP.seqk fun K2 hK2 => ?_
 refine AWP.seqk fun K3 hK3 => ?_
 refine AWP.region ?_
 simp only [go_sem]
 repeat' (first | (refine ACall.one (oamount_c _) (by kernel_rfl) rfl ?_; simp only [go_sem]) | fail)
 refine hK3 _ ?_; clear hK3 K3
 refine AWP.cond rfl (fun c7 => ?_) (fun c7 => ?_)
 · first | (
     try simp only [dD] at c7
     refine AWP.seqk fun K4 hK4 => ?_
     refine AWP.region ?_
     simp only [go_sem]
     repeat' (first | fail)
     refine hK4 _ ?_; clear hK4 K4
     refine AWP.ret ?_
     try simp only [go_sem]
     clear hK2 K2
     exact ⟨[], .v _, rfl, rfl, by simp_all [fairF], rfl⟩)
 · first | (
     try simp only [dD] at c7
     refine AWP.skip ?_
     refine hK2 _ ?_; clear hK2 K2
     refine AWP.seqk fun K5 hK5 => ?_
     refine AWP.seqk fun K6 hK6 => ?_
     refine AWP.region ?_
     simp only [go_sem]
     repeat' (first | fail)
     refine hK6 _ ?_; clear hK6 K6
     refine AWP.cond rfl (fun c9 => ?_) (fun c9 => ?_)
     · first | (
         try simp only [dD] at c9
         refine AWP.seqk fun K7 hK7 => ?_
         refine AWP.region ?_
         simp only [go_sem]
         repeat' (first | fail)
         refine hK7 _ ?_; clear hK7 K7
         refine AWP.ret ?_
         try simp only [go_sem]
         clear hK5 K5
         exact ⟨[], .v _, rfl, rfl, by simp_all [fairF], rfl⟩)
     · first | (
         try simp only [dD] at c9
         refine AWP.skip ?_
         refine hK5 _ ?_; clear hK5 K5
         refine AWP.seqk fun K8 hK8 => ?_
         refine AWP.region ?_
         simp only [go_sem]
         repeat' (first | fail)
         refine hK8 _ ?_; clear hK8 K8
         refine AWP.ret ?_
         try simp only [go_sem]
         exact ⟨[], .v _, rfl, rfl, by simp_all [fairF], rfl⟩))
set_option maxHeartbeats 4000000 in
set_option maxRecDepth 8000 in
theorem bfair_c (o : Od) (b : Bool) (p : Int) : ACalls E 235 [odV o, bl b, i64 p] (fun r t => r = bl (fairF { o with buy := b } p) ∧ t = []) := by
 refine ACalls.of_awp (n := 24) (rs := [.tmp 6]) Tryz.func235 rfl Tryz.ntmps235 rfl ?_
 refine AWP.seqk fun K1 hK1 => ?_
 refine AWP.region ?_
 simp only [go_sem]
 repeat' (first | fail)
 refine hK1 _ ?_; clear hK1 K1
 refine AWP.seqk fun K2 hK2 => ?_
 refine AWP.seqk fun K3 hK3 => ?_
 refine AWP.region ?_
 simp only [go_sem]
 repeat' (first | fail)
 refine hK3 _ ?_; clear hK3 K3
 refine AWP.cond rfl (fun c7 => ?_) (fun c7 => ?_)
 · first | (
     try simp only [dD] at c7
     refine AWP.seqk fun K4 hK4 => ?_
     refine AWP.region ?_
     simp only [go_sem]
     repeat' (first | (refine ACall.one (bamount_c _) (by kernel_rfl) rfl ?_; simp only [go_sem]) | (refine AGuard.split (fun h => ?_) (fun h => ?_) <;> simp only [h, go_sem] <;> try simp only [dD] at h) | fail)
     all_goals (
       refine hK4 _ ?_; clear hK4 K4
       refine AWP.ret ?_
       try simp only [go_sem]
       clear hK2 K2
       exact ⟨[], .v _, rfl, rfl, by simp_all [fairF], rfl⟩))
 · first | (
     try simp only [dD] at c7
     refine AWP.skip ?_
     refine hK2 _ ?_; clear hK2 K2
     refine AWP.seqk fun K5 hK5 => ?_
     refine AWP.region ?_
     simp only [go_sem]
     repeat' (first | (refine ACall.one (bamount_c _) (by kernel_rfl) rfl ?_; simp only [go_sem]) | (refine AGuard.split (fun h => ?_) (fun h => ?_) <;> simp only [h, go_sem] <;> try simp only [dD] at h) | fail)
     all_goals (
       refine hK5 _ ?_; clear hK5 K5
       refine AWP.ret ?_
       try simp only [go_sem]
       exact ⟨[], .v _, rfl, rfl, by simp_all [fairF], rfl⟩))
set_option maxHeartbeats 4000000 in
set_option maxRecDepth 8000 in
theorem place1_c (o : Od) (id : Bs) : ACalls E 195 [odV o, .rptr [str id]] (fun r t => r = bl (decide (o.id = id)) ∧ t = []) := by
 refine ACalls.of_awp (n := 8) (rs := [.tmp 3]) Tryz.func195 rfl Tryz.ntmps195 rfl ?_
 refine AWP.seqk fun K1 hK1 => ?_
 refine AWP.region ?_
 simp only [go_sem]
 repeat' (first | fail)
 refine hK1 _ ?_; clear hK1 K1
 refine AWP.seqk fun K2 hK2 => ?_
 refine AWP.region ?_
 simp only [go_sem]
 repeat' (first | fail)
 refine hK2 _ ?_; clear hK2 K2
 refine AWP.ret ?_
 try simp only [go_sem]
 exact ⟨[], .v _, rfl, rfl, by simp_all, rfl⟩
end Go.Proofs.YtajeeghgiilhiaaGreat
end
section
namespace Go.Proofs.YtajeeghgiilhiaaGreat
open Go Go.Abs Go.RowKit Go.Bk
set_option maxHeartbeats 4000000 in
set_option maxRecDepth 8000 in
theorem oindex_c (l : List Od) (id : Bs) (hl : l.length ≤ 9223372036854775807) : ACalls E 154 [odsV l, .fn 195 [.rptr [str id]]] (fun r t => r = i64 (placeI l id) ∧ t = []) := by
 refine ACalls.of_awp (n := 19) (rs := [.tmp 4]) Tryz.func154 rfl Tryz.ntmps154 rfl ?_
 refine AWP.seqk fun K1 hK1 => ?_
 refine AWP.region ?_
 simp only [go_sem]
 repeat' (first | fail)
 refine hK1 _ ?_; clear hK1 K1
 refine AWP.seqk fun K2 hK2 => ?_
 refine AWP.seqk fun K3 hK3 => ?_
 refine AWP.region ?_
 simp only [go_sem]
 repeat' (first | ((first | with_reducible refine And.intro ?_ ?_); (focus ((first | (simp; done)))); (try simp only [hb, go_sem])))
 refine hK3 _ ?_; clear hK3 K3
 refine AWP.block ?_
 refine AWP.loopH (ι := Nat) [4, 5, 9, 10, 11, 12, 13, 14, 15, 16, 17, 18] (fun (i : Nat) => [(8, i64 i)]) (fun (i : Nat) => i ≤ l.length ∧ (l.take i).all (fun o => !decide (o.id = id)) = true) (fun (i : Nat) => l.length - i) (0) ?_ ?_ ?_
 · (try simp only [go_sem]); try (simp; done)
 · exact ⟨by omega, by simp⟩
 rintro i ⟨h1, h2⟩
 simp only [go_sem]
 refine AWP.seqk fun K4 hK4 => ?_
 refine AWP.region ?_
 simp only [go_sem]
 repeat' (first | fail)
 refine hK4 _ ?_; clear hK4 K4
 refine AWP.seqk fun K5 hK5 => ?_
 refine AWP.cond rfl (fun c9 => ?_) (fun c9 => ?_)
 · first | (
     try simp only [dD] at c9
     refine AWP.skip ?_
     refine hK5 _ ?_; clear hK5 K5
     refine AWP.seqk fun K6 hK6 => ?_
     refine AWP.block ?_
     refine AWP.seqk fun K7 hK7 => ?_
     refine AWP.region ?_
     simp only [go_sem]
     repeat' (first | fail)
     refine hK7 _ ?_; clear hK7 K7
     refine AWP.seqk fun K8 hK8 => ?_
     refine AWP.region ?_
     simp only [go_sem]
     repeat' (first | (refine ACall.one (place1_c _ _) (by kernel_rfl) rfl ?_; simp only [go_sem]) | ((first | refine AGet.nth ?_ (fun b hb => ?_) | fail); (focus ((first | omega | fail))); (try simp only [hb, go_sem])))
     refine hK8 _ ?_; clear hK8 K8
     refine AWP.cond rfl (fun c16 => ?_) (fun c16 => ?_)
     · first | (
         try simp only [dD] at c16
         refine AWP.seqk fun K9 hK9 => ?_
         refine AWP.region ?_
         simp only [go_sem]
         repeat' (first | fail)
         refine hK9 _ ?_; clear hK9 K9
         refine AWP.ret ?_
         try simp only [go_sem]
         clear hK6 K6 hK2 K2
         first
         | exact ⟨[], .v _, rfl, rfl, by rw [placeI_of hb (by assumption) h2], rfl⟩
         | fail)
     · first | (
         try simp only [dD] at c16
         refine AWP.skip ?_
         refine hK6 _ ?_; clear hK6 K6
         refine AWP.region ?_
         simp only [go_sem]
         repeat' (first | fail)
         clear hK2 K2
         refine ⟨i + 1, ?_, ?_, ?_⟩
         · (try simp only [go_sem]); (try rw [wrap64_id (by omega) (by omega)]); simp
         · exact ⟨by omega, all_next hb h2 (by simp; assumption)⟩
         · omega))
 · first | (
     try simp only [dD] at c9
     refine AWP.exit ?_
     simp only [go_sem]
     clear hK5 K5
     refine hK2 _ ?_; clear hK2 K2
     refine AWP.seqk fun K10 hK10 => ?_
     refine AWP.region ?_
     simp only [go_sem]
     repeat' (first | fail)
     refine hK10 _ ?_; clear hK10 K10
     refine AWP.ret ?_
     try simp only [go_sem]
     first
     | exact ⟨[], .v _, rfl, rfl, by rw [placeI_none (by omega) h2], rfl⟩
     | fail)
set_option maxHeartbeats 4000000 in
set_option maxRecDepth 8000 in
theorem oplace_c (l : List Od) (id : Bs) (hl : l.length ≤ 9223372036854775807) : ACalls E 163 [odsV l, str id] (fun r t => r = i64 (placeI l id) ∧ t = []) := by
 refine ACalls.of_awp (n := 8) (rs := [.tmp 4]) Tryz.func163 rfl Tryz.ntmps163 rfl ?_
 refine AWP.seqk fun K1 hK1 => ?_
 refine AWP.region ?_
 simp only [go_sem]
 repeat' (first | fail)
 refine hK1 _ ?_; clear hK1 K1
 refine AWP.seqk fun K2 hK2 => ?_
 refine AWP.region ?_
 simp only [go_sem]
 repeat' (first | (refine ACall.snapOne (oindex_c l id hl) (by kernel_rfl) rfl (.cons (.one (.clean rfl)) (.cons (.fn (.cons (.ptr (e := .agg [str id]) rfl (cl_str id)) .nil)) .nil)) ?_; simp only [go_sem]) | fail)
 refine hK2 _ ?_; clear hK2 K2
 refine AWP.ret ?_
 try simp only [go_sem]
 exact ⟨[], .v _, rfl, rfl, rfl, rfl⟩
set_option maxHeartbeats 4000000 in
set_option maxRecDepth 8000 in
theorem oright_c (l : List Od) (hl : l.length ≤ 9223372036854775807) : ACalls E 97 [odsV l] (fun r t => r = bl (rightO l) ∧ t = []) := by
 refine ACalls.of_awp (n := 28) (rs := [.tmp 2]) Tryz.func97 rfl Tryz.ntmps97 rfl ?_
 refine AWP.seqk fun K1 hK1 => ?_
 refine AWP.region ?_
 simp only [go_sem]
 repeat' (first | fail)
 refine hK1 _ ?_; clear hK1 K1
 refine AWP.seqk fun K2 hK2 => ?_
 refine AWP.seqk fun K3 hK3 => ?_
 refine AWP.region ?_
 simp only [go_sem]
 repeat' (first | ((first | with_reducible refine And.intro ?_ ?_); (focus ((first | (simp; done)))); (try simp only [hb, go_sem])))
 refine hK3 _ ?_; clear hK3 K3
 refine AWP.cond rfl (fun c7 => ?_) (fun c7 => ?_)
 · first | (
     try simp only [dD] at c7
     refine AWP.seqk fun K4 hK4 => ?_
     refine AWP.region ?_
     simp only [go_sem]
     repeat' (first | fail)
     refine hK4 _ ?_; clear hK4 K4
     refine AWP.ret ?_
     try simp only [go_sem]
     clear hK2 K2
     first
     | exact ⟨[], .v _, rfl, rfl, by rw [right_no1 (by omega)], rfl⟩
     | fail)
 · first | (
     try simp only [dD] at c7
     refine AWP.skip ?_
     refine hK2 _ ?_; clear hK2 K2
     refine AWP.seqk fun K5 hK5 => ?_
     refine AWP.seqk fun K6 hK6 => ?_
     refine AWP.region ?_
     simp only [go_sem]
     repeat' (first | ((first | with_reducible refine And.intro ?_ ?_); (focus ((first | (simp; done)))); (try simp only [hb, go_sem])))
     refine hK6 _ ?_; clear hK6 K6
     refine AWP.block ?_
     refine AWP.loopH (ι := Nat) [2, 3, 4, 11, 12, 13, 14, 15, 16, 17, 18, 19, 20, 21, 22, 23, 24, 25, 26, 27] (fun (i : Nat) => [(10, i64 i)]) (fun (i : Nat) => i ≤ l.length ∧ l.length ≤ 64 ∧ rightGo l i = true) (fun (i : Nat) => l.length - i) (0) ?_ ?_ ?_
     · (try simp only [go_sem]); try (simp; done)
     · exact ⟨by omega, by omega, rfl⟩
     rintro i ⟨h1, h2, h3⟩
     simp only [go_sem]
     refine AWP.seqk fun K7 hK7 => ?_
     refine AWP.region ?_
     simp only [go_sem]
     repeat' (first | fail)
     refine hK7 _ ?_; clear hK7 K7
     refine AWP.seqk fun K8 hK8 => ?_
     refine AWP.cond rfl (fun c11 => ?_) (fun c11 => ?_)
     · first | (
         try simp only [dD] at c11
         refine AWP.skip ?_
         refine hK8 _ ?_; clear hK8 K8
         refine AWP.seqk fun K9 hK9 => ?_
         refine AWP.block ?_
         refine AWP.seqk fun K10 hK10 => ?_
         refine AWP.region ?_
         simp only [go_sem]
         repeat' (first | ((first | refine AGet.nth ?_ (fun b hb => ?_) | fail); (focus ((first | omega | fail))); (try simp only [hb, go_sem])))
         refine hK10 _ ?_; clear hK10 K10
         refine AWP.seqk fun K11 hK11 => ?_
         refine AWP.regionAs [0, 1, 2, 3, 4, 5, 6, 7, 8, 9, 10, 11] [[], [0], [0, 1], [0, 1, 2], [0, 1, 2, 3], [0, 1, 2, 3], [0, 1, 2, 3, 4, 5], [0, 1, 2, 3], [0, 1, 2, 3, 7], [0, 1, 2, 3, 4, 5, 6, 7, 8], [0, 1, 2, 3, 4, 5, 6, 7, 8, 9], [0, 1, 2, 3, 4, 5, 6, 7, 8, 9, 10]] [] (by kernel_rfl) (by kernel_rfl) (by decide) rfl ?_
         simp only [go_sem]
         repeat' (first | (refine ACall.one (omay_c _) (by kernel_rfl) rfl ?_; simp only [go_sem]) | (refine ACall.one (oplace_c _ _ (by first | omega | (simp only [List.length_take]; omega))) (by kernel_rfl) rfl ?_; simp only [go_sem]) | (refine AGuard.split (fun h => ?_) (fun h => ?_) <;> simp only [h, go_sem] <;> try simp only [dD] at h) | ((first | with_reducible refine And.intro ?_ ?_); (focus ((first | omega | fail))); (try simp only [hb, go_sem])))
         all_goals (
           refine hK11 _ ?_; clear hK11 K11
           refine AWP.cond rfl (fun c26 => ?_) (fun c26 => ?_)
           · first | (
               try simp only [dD] at c26
               refine AWP.seqk fun K12 hK12 => ?_
               refine AWP.region ?_
               simp only [go_sem]
               repeat' (first | fail)
               refine hK12 _ ?_; clear hK12 K12
               refine AWP.ret ?_
               try simp only [go_sem]
               clear hK9 K9 hK5 K5
               first
               | exact ⟨[], .v _, rfl, rfl, by rw [right_no2 (by omega) (okAt_no1 hb (by assumption))], rfl⟩
               | exact ⟨[], .v _, rfl, rfl, by rw [right_no2 (by omega) (okAt_no2 hb (by assumption))], rfl⟩
               | fail)
           · first | exact Bool.noConfusion c26 | (
               try simp only [dD] at c26
               refine AWP.skip ?_
               refine hK9 _ ?_; clear hK9 K9
               refine AWP.region ?_
               simp only [go_sem]
               repeat' (first | fail)
               clear hK5 K5
               refine ⟨i + 1, ?_, ?_, ?_⟩
               · (try simp only [go_sem]); (try rw [wrap64_id (by omega) (by omega)]); simp
               · exact ⟨by omega, by omega, rightGo_next h3 (okAt_yes hb (by assumption) (by assumption))⟩
               · omega)))
     · first | (
         try simp only [dD] at c11
         refine AWP.exit ?_
         simp only [go_sem]
         clear hK8 K8
         refine hK5 _ ?_; clear hK5 K5
         refine AWP.seqk fun K13 hK13 => ?_
         refine AWP.region ?_
         simp only [go_sem]
         repeat' (first | fail)
         refine hK13 _ ?_; clear hK13 K13
         refine AWP.ret ?_
         try simp only [go_sem]
         first
         | exact ⟨[], .v _, rfl, rfl, by rw [right_yes h2 (by omega) h3], rfl⟩
         | fail))
end Go.Proofs.YtajeeghgiilhiaaGreat
end
