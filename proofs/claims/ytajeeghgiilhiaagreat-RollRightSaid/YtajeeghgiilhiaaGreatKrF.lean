/- Texts of one chain, put together (Facts, N0, N1, Lm, Shelf, Q21, N2, N3, N4, N5, N6, N7, N8, N9, N10, N1b, Vs). -/
import Derived.Test.YtajeeghgiilhiaaGreatRows
import Derived.Test.YtajeeghgiilhiaaGreatKrE
import Derived.Test.YtajeeghgiilhiaaGreatKrD
import Derived.Laws.Externs
import Derived.Shelf.Bits.Mul64
import Derived.Shelf.SlIter.Sorted
import Derived.Shelf.SortM.Plain
import Derived.Shelf.SortM.SortNone
import Derived.Ground.GgzProg
import Derived.Ground.SlgmProg
import Derived.Test.YtajeeghgiilhiaaGreatProg
section
/- Closed facts on the types and functions that the code names, for the abstract layer; made by program. -/
namespace Go.Proofs.YtajeeghgiilhiaaGreat
open Go Go.Abs

theorem ld2 : loadInfo Tryz.prog 2 = some (false, 1) := by kernel_rfl
theorem ld3 : loadInfo Tryz.prog 3 = some (false, 1) := by kernel_rfl
theorem ld4 : loadInfo Tryz.prog 4 = some (false, 1) := by kernel_rfl
theorem ld5 : loadInfo Tryz.prog 5 = some (false, 1) := by kernel_rfl
theorem ld9 : loadInfo Tryz.prog 9 = some (false, 1) := by kernel_rfl
theorem ld22 : loadInfo Tryz.prog 22 = some (false, 1) := by kernel_rfl
theorem ld23 : loadInfo Tryz.prog 23 = some (false, 1) := by kernel_rfl
theorem ld24 : loadInfo Tryz.prog 24 = some (false, 1) := by kernel_rfl
theorem ld26 : loadInfo Tryz.prog 26 = some (true, 5) := by kernel_rfl
theorem ld27 : loadInfo Tryz.prog 27 = some (false, 1) := by kernel_rfl
theorem ld45 : loadInfo Tryz.prog 45 = some (true, 2) := by kernel_rfl
theorem ld49 : loadInfo Tryz.prog 49 = some (true, 5) := by kernel_rfl
theorem ld55 : loadInfo Tryz.prog 55 = some (false, 1) := by kernel_rfl
theorem ld56 : loadInfo Tryz.prog 56 = some (false, 1) := by kernel_rfl
theorem ld58 : loadInfo Tryz.prog 58 = some (true, 5) := by kernel_rfl
theorem ld63 : loadInfo Tryz.prog 63 = some (true, 6) := by kernel_rfl
theorem ld65 : loadInfo Tryz.prog 65 = some (true, 8) := by kernel_rfl
theorem ld69 : loadInfo Tryz.prog 69 = some (true, 10) := by kernel_rfl
theorem ld77 : loadInfo Tryz.prog 77 = some (true, 29) := by kernel_rfl
theorem ld86 : loadInfo Tryz.prog 86 = some (true, 8) := by kernel_rfl
theorem ld106 : loadInfo Tryz.prog 106 = some (true, 9) := by kernel_rfl
theorem ld176 : loadInfo Tryz.prog 176 = some (true, 2) := by kernel_rfl
theorem ld243 : loadInfo Tryz.prog 243 = some (false, 1) := by kernel_rfl
theorem fi26_0 : fieldInfo Tryz.prog 26 0 = some (0, 22, 1) := by kernel_rfl
theorem fi26_1 : fieldInfo Tryz.prog 26 1 = some (1, 23, 1) := by kernel_rfl
theorem fi26_2 : fieldInfo Tryz.prog 26 2 = some (2, 24, 1) := by kernel_rfl
theorem fi26_3 : fieldInfo Tryz.prog 26 3 = some (3, 2, 1) := by kernel_rfl
theorem fi26_4 : fieldInfo Tryz.prog 26 4 = some (4, 3, 1) := by kernel_rfl
theorem fi45_0 : fieldInfo Tryz.prog 45 0 = some (0, 2, 1) := by kernel_rfl
theorem fi45_1 : fieldInfo Tryz.prog 45 1 = some (1, 2, 1) := by kernel_rfl
theorem fi49_0 : fieldInfo Tryz.prog 49 0 = some (0, 9, 1) := by kernel_rfl
theorem fi49_1 : fieldInfo Tryz.prog 49 1 = some (1, 9, 1) := by kernel_rfl
theorem fi49_2 : fieldInfo Tryz.prog 49 2 = some (2, 2, 1) := by kernel_rfl
theorem fi49_3 : fieldInfo Tryz.prog 49 3 = some (3, 2, 1) := by kernel_rfl
theorem fi49_4 : fieldInfo Tryz.prog 49 4 = some (4, 4, 1) := by kernel_rfl
theorem fi58_0 : fieldInfo Tryz.prog 58 0 = some (0, 55, 1) := by kernel_rfl
theorem fi58_1 : fieldInfo Tryz.prog 58 1 = some (1, 56, 1) := by kernel_rfl
theorem fi58_2 : fieldInfo Tryz.prog 58 2 = some (2, 4, 1) := by kernel_rfl
theorem fi58_3 : fieldInfo Tryz.prog 58 3 = some (3, 2, 1) := by kernel_rfl
theorem fi58_4 : fieldInfo Tryz.prog 58 4 = some (4, 2, 1) := by kernel_rfl
theorem fi63_0 : fieldInfo Tryz.prog 63 0 = some (0, 9, 1) := by kernel_rfl
theorem fi63_1 : fieldInfo Tryz.prog 63 1 = some (1, 9, 1) := by kernel_rfl
theorem fi63_2 : fieldInfo Tryz.prog 63 2 = some (2, 2, 1) := by kernel_rfl
theorem fi63_3 : fieldInfo Tryz.prog 63 3 = some (3, 2, 1) := by kernel_rfl
theorem fi63_4 : fieldInfo Tryz.prog 63 4 = some (4, 2, 1) := by kernel_rfl
theorem fi63_5 : fieldInfo Tryz.prog 63 5 = some (5, 2, 1) := by kernel_rfl
theorem fi65_0 : fieldInfo Tryz.prog 65 0 = some (0, 9, 1) := by kernel_rfl
theorem fi65_1 : fieldInfo Tryz.prog 65 1 = some (1, 9, 1) := by kernel_rfl
theorem fi65_2 : fieldInfo Tryz.prog 65 2 = some (2, 9, 1) := by kernel_rfl
theorem fi65_3 : fieldInfo Tryz.prog 65 3 = some (3, 4, 1) := by kernel_rfl
theorem fi65_4 : fieldInfo Tryz.prog 65 4 = some (4, 2, 1) := by kernel_rfl
theorem fi65_5 : fieldInfo Tryz.prog 65 5 = some (5, 2, 1) := by kernel_rfl
theorem fi65_6 : fieldInfo Tryz.prog 65 6 = some (6, 2, 1) := by kernel_rfl
theorem fi65_7 : fieldInfo Tryz.prog 65 7 = some (7, 4, 1) := by kernel_rfl
theorem fi69_0 : fieldInfo Tryz.prog 69 0 = some (0, 9, 1) := by kernel_rfl
theorem fi69_1 : fieldInfo Tryz.prog 69 1 = some (1, 9, 1) := by kernel_rfl
theorem fi69_2 : fieldInfo Tryz.prog 69 2 = some (2, 9, 1) := by kernel_rfl
theorem fi69_3 : fieldInfo Tryz.prog 69 3 = some (3, 9, 1) := by kernel_rfl
theorem fi69_4 : fieldInfo Tryz.prog 69 4 = some (4, 9, 1) := by kernel_rfl
theorem fi69_5 : fieldInfo Tryz.prog 69 5 = some (5, 3, 1) := by kernel_rfl
theorem fi69_6 : fieldInfo Tryz.prog 69 6 = some (6, 4, 1) := by kernel_rfl
theorem fi69_7 : fieldInfo Tryz.prog 69 7 = some (7, 2, 1) := by kernel_rfl
theorem fi69_8 : fieldInfo Tryz.prog 69 8 = some (8, 2, 1) := by kernel_rfl
theorem fi69_9 : fieldInfo Tryz.prog 69 9 = some (9, 2, 1) := by kernel_rfl
theorem fi77_0 : fieldInfo Tryz.prog 77 0 = some (0, 5, 1) := by kernel_rfl
theorem fi77_1 : fieldInfo Tryz.prog 77 1 = some (1, 3, 1) := by kernel_rfl
theorem fi77_2 : fieldInfo Tryz.prog 77 2 = some (2, 65, 8) := by kernel_rfl
theorem fi77_3 : fieldInfo Tryz.prog 77 3 = some (10, 9, 1) := by kernel_rfl
theorem fi77_4 : fieldInfo Tryz.prog 77 4 = some (11, 69, 10) := by kernel_rfl
theorem fi77_5 : fieldInfo Tryz.prog 77 5 = some (21, 5, 1) := by kernel_rfl
theorem fi77_6 : fieldInfo Tryz.prog 77 6 = some (22, 4, 1) := by kernel_rfl
theorem fi77_7 : fieldInfo Tryz.prog 77 7 = some (23, 63, 6) := by kernel_rfl
theorem fi86_0 : fieldInfo Tryz.prog 86 0 = some (0, 26, 5) := by kernel_rfl
theorem fi86_1 : fieldInfo Tryz.prog 86 1 = some (5, 22, 1) := by kernel_rfl
theorem fi86_2 : fieldInfo Tryz.prog 86 2 = some (6, 2, 1) := by kernel_rfl
theorem fi86_3 : fieldInfo Tryz.prog 86 3 = some (7, 4, 1) := by kernel_rfl
theorem fi106_0 : fieldInfo Tryz.prog 106 0 = some (0, 9, 1) := by kernel_rfl
theorem fi106_1 : fieldInfo Tryz.prog 106 1 = some (1, 9, 1) := by kernel_rfl
theorem fi106_2 : fieldInfo Tryz.prog 106 2 = some (2, 9, 1) := by kernel_rfl
theorem fi106_3 : fieldInfo Tryz.prog 106 3 = some (3, 9, 1) := by kernel_rfl
theorem fi106_4 : fieldInfo Tryz.prog 106 4 = some (4, 4, 1) := by kernel_rfl
theorem fi106_5 : fieldInfo Tryz.prog 106 5 = some (5, 2, 1) := by kernel_rfl
theorem fi106_6 : fieldInfo Tryz.prog 106 6 = some (6, 2, 1) := by kernel_rfl
theorem fi106_7 : fieldInfo Tryz.prog 106 7 = some (7, 2, 1) := by kernel_rfl
theorem fi106_8 : fieldInfo Tryz.prog 106 8 = some (8, 4, 1) := by kernel_rfl
theorem fi169_0 : fieldInfo Tryz.prog 169 0 = some (0, 2, 1) := by kernel_rfl
theorem fi169_1 : fieldInfo Tryz.prog 169 1 = some (1, 4, 1) := by kernel_rfl
theorem fi169_2 : fieldInfo Tryz.prog 169 2 = some (2, 4, 1) := by kernel_rfl
theorem fi169_3 : fieldInfo Tryz.prog 169 3 = some (3, 3, 1) := by kernel_rfl
theorem fi176_0 : fieldInfo Tryz.prog 176 0 = some (0, 9, 1) := by kernel_rfl
theorem fi176_1 : fieldInfo Tryz.prog 176 1 = some (1, 9, 1) := by kernel_rfl
theorem ix22 : idxInfo Tryz.prog 22 = some (none, 65, 8) := by kernel_rfl
theorem ix23 : idxInfo Tryz.prog 23 = some (none, 106, 9) := by kernel_rfl
theorem ix24 : idxInfo Tryz.prog 24 = some (none, 9, 1) := by kernel_rfl
theorem ix27 : idxInfo Tryz.prog 27 = some (none, 49, 5) := by kernel_rfl
theorem ix31 : idxInfo Tryz.prog 31 = some (none, 27, 1) := by kernel_rfl
theorem ix55 : idxInfo Tryz.prog 55 = some (none, 86, 8) := by kernel_rfl
theorem ix56 : idxInfo Tryz.prog 56 = some (none, 63, 6) := by kernel_rfl
theorem ix73 : idxInfo Tryz.prog 73 = some (none, 77, 29) := by kernel_rfl
theorem ix91 : idxInfo Tryz.prog 91 = some (none, 69, 10) := by kernel_rfl
theorem ix92 : idxInfo Tryz.prog 92 = some (none, 4, 1) := by kernel_rfl
theorem ix174 : idxInfo Tryz.prog 174 = some (none, 176, 2) := by kernel_rfl
theorem ix187 : idxInfo Tryz.prog 187 = some (none, 2, 1) := by kernel_rfl
theorem ix217 : idxInfo Tryz.prog 217 = some (none, 3, 1) := by kernel_rfl
theorem ix222 : idxInfo Tryz.prog 222 = some (some 5, 4, 1) := by kernel_rfl
theorem ap22 : appInfo Tryz.prog 22 = some (65, 8, 88) := by kernel_rfl
theorem ap23 : appInfo Tryz.prog 23 = some (106, 9, 104) := by kernel_rfl
theorem ap24 : appInfo Tryz.prog 24 = some (9, 1, 16) := by kernel_rfl
theorem ap27 : appInfo Tryz.prog 27 = some (49, 5, 56) := by kernel_rfl
theorem ap31 : appInfo Tryz.prog 31 = some (27, 1, 24) := by kernel_rfl
theorem ap55 : appInfo Tryz.prog 55 = some (86, 8, 128) := by kernel_rfl
theorem ap56 : appInfo Tryz.prog 56 = some (63, 6, 64) := by kernel_rfl
theorem ap174 : appInfo Tryz.prog 174 = some (176, 2, 32) := by kernel_rfl
theorem ap187 : appInfo Tryz.prog 187 = some (2, 1, 8) := by kernel_rfl
theorem ap217 : appInfo Tryz.prog 217 = some (3, 1, 8) := by kernel_rfl
theorem sz2 : tsz Tryz.prog 2 = some 1 := by kernel_rfl
theorem sz3 : tsz Tryz.prog 3 = some 1 := by kernel_rfl
theorem sz4 : tsz Tryz.prog 4 = some 1 := by kernel_rfl
theorem sz9 : tsz Tryz.prog 9 = some 1 := by kernel_rfl
theorem sz22 : tsz Tryz.prog 22 = some 1 := by kernel_rfl
theorem sz23 : tsz Tryz.prog 23 = some 1 := by kernel_rfl
theorem sz24 : tsz Tryz.prog 24 = some 1 := by kernel_rfl
theorem sz26 : tsz Tryz.prog 26 = some 5 := by kernel_rfl
theorem sz27 : tsz Tryz.prog 27 = some 1 := by kernel_rfl
theorem sz45 : tsz Tryz.prog 45 = some 2 := by kernel_rfl
theorem sz49 : tsz Tryz.prog 49 = some 5 := by kernel_rfl
theorem sz55 : tsz Tryz.prog 55 = some 1 := by kernel_rfl
theorem sz56 : tsz Tryz.prog 56 = some 1 := by kernel_rfl
theorem sz58 : tsz Tryz.prog 58 = some 5 := by kernel_rfl
theorem sz63 : tsz Tryz.prog 63 = some 6 := by kernel_rfl
theorem sz65 : tsz Tryz.prog 65 = some 8 := by kernel_rfl
theorem sz69 : tsz Tryz.prog 69 = some 10 := by kernel_rfl
theorem sz77 : tsz Tryz.prog 77 = some 29 := by kernel_rfl
theorem sz86 : tsz Tryz.prog 86 = some 8 := by kernel_rfl
theorem sz106 : tsz Tryz.prog 106 = some 9 := by kernel_rfl
theorem sz169 : tsz Tryz.prog 169 = some 4 := by kernel_rfl
theorem sz176 : tsz Tryz.prog 176 = some 2 := by kernel_rfl
theorem sz222 : tsz Tryz.prog 222 = some 5 := by kernel_rfl
theorem sz243 : tsz Tryz.prog 243 = some 1 := by kernel_rfl
theorem sr22 : srcTy Tryz.prog 22 = true := by kernel_rfl
theorem sr23 : srcTy Tryz.prog 23 = true := by kernel_rfl
theorem sr24 : srcTy Tryz.prog 24 = true := by kernel_rfl
theorem sr27 : srcTy Tryz.prog 27 = true := by kernel_rfl
theorem sr31 : srcTy Tryz.prog 31 = true := by kernel_rfl
theorem sr55 : srcTy Tryz.prog 55 = true := by kernel_rfl
theorem sr56 : srcTy Tryz.prog 56 = true := by kernel_rfl
theorem sr174 : srcTy Tryz.prog 174 = true := by kernel_rfl
theorem sr187 : srcTy Tryz.prog 187 = true := by kernel_rfl
theorem fk45 : flatKinds Tryz.prog 45 = some [0, 0] := by kernel_rfl
theorem fk49 : flatKinds Tryz.prog 49 = some [1, 1, 0, 0, 2] := by kernel_rfl
theorem fk63 : flatKinds Tryz.prog 63 = some [1, 1, 0, 0, 0, 0] := by kernel_rfl
theorem fk65 : flatKinds Tryz.prog 65 = some [1, 1, 1, 2, 0, 0, 0, 2] := by kernel_rfl
theorem fk106 : flatKinds Tryz.prog 106 = some [1, 1, 1, 1, 2, 0, 0, 0, 2] := by kernel_rfl
theorem fk176 : flatKinds Tryz.prog 176 = some [1, 1] := by kernel_rfl
theorem cl10 : callable Tryz.prog 10 = true := by kernel_rfl
theorem cl11 : callable Tryz.prog 11 = true := by kernel_rfl
theorem cl12 : callable Tryz.prog 12 = true := by kernel_rfl
theorem cl13 : callable Tryz.prog 13 = true := by kernel_rfl
theorem cl14 : callable Tryz.prog 14 = true := by kernel_rfl
theorem cl15 : callable Tryz.prog 15 = true := by kernel_rfl
theorem cl16 : callable Tryz.prog 16 = true := by kernel_rfl
theorem cl17 : callable Tryz.prog 17 = true := by kernel_rfl
theorem cl18 : callable Tryz.prog 18 = true := by kernel_rfl
theorem cl19 : callable Tryz.prog 19 = true := by kernel_rfl
theorem cl20 : callable Tryz.prog 20 = true := by kernel_rfl
theorem cl21 : callable Tryz.prog 21 = true := by kernel_rfl
theorem cl22 : callable Tryz.prog 22 = true := by kernel_rfl
theorem cl23 : callable Tryz.prog 23 = true := by kernel_rfl
theorem cl24 : callable Tryz.prog 24 = true := by kernel_rfl
theorem cl25 : callable Tryz.prog 25 = true := by kernel_rfl
theorem cl26 : callable Tryz.prog 26 = true := by kernel_rfl
theorem cl27 : callable Tryz.prog 27 = true := by kernel_rfl
theorem cl28 : callable Tryz.prog 28 = true := by kernel_rfl
theorem cl29 : callable Tryz.prog 29 = true := by kernel_rfl
theorem cl30 : callable Tryz.prog 30 = true := by kernel_rfl
theorem cl31 : callable Tryz.prog 31 = true := by kernel_rfl
theorem cl32 : callable Tryz.prog 32 = true := by kernel_rfl
theorem cl33 : callable Tryz.prog 33 = true := by kernel_rfl
theorem cl34 : callable Tryz.prog 34 = true := by kernel_rfl
theorem cl35 : callable Tryz.prog 35 = true := by kernel_rfl
theorem cl36 : callable Tryz.prog 36 = true := by kernel_rfl
theorem cl37 : callable Tryz.prog 37 = true := by kernel_rfl
theorem cl38 : callable Tryz.prog 38 = true := by kernel_rfl
theorem cl39 : callable Tryz.prog 39 = true := by kernel_rfl
theorem cl40 : callable Tryz.prog 40 = true := by kernel_rfl
theorem cl41 : callable Tryz.prog 41 = true := by kernel_rfl
theorem cl42 : callable Tryz.prog 42 = true := by kernel_rfl
theorem cl43 : callable Tryz.prog 43 = true := by kernel_rfl
theorem cl44 : callable Tryz.prog 44 = true := by kernel_rfl
theorem cl45 : callable Tryz.prog 45 = true := by kernel_rfl
theorem cl46 : callable Tryz.prog 46 = true := by kernel_rfl
theorem cl47 : callable Tryz.prog 47 = true := by kernel_rfl
theorem cl48 : callable Tryz.prog 48 = true := by kernel_rfl
theorem cl49 : callable Tryz.prog 49 = true := by kernel_rfl
theorem cl50 : callable Tryz.prog 50 = true := by kernel_rfl
theorem cl51 : callable Tryz.prog 51 = true := by kernel_rfl
theorem cl52 : callable Tryz.prog 52 = true := by kernel_rfl
theorem cl53 : callable Tryz.prog 53 = true := by kernel_rfl
theorem cl54 : callable Tryz.prog 54 = true := by kernel_rfl
theorem cl55 : callable Tryz.prog 55 = true := by kernel_rfl
theorem cl56 : callable Tryz.prog 56 = true := by kernel_rfl
theorem cl57 : callable Tryz.prog 57 = true := by kernel_rfl
theorem cl58 : callable Tryz.prog 58 = true := by kernel_rfl
theorem cl59 : callable Tryz.prog 59 = true := by kernel_rfl
theorem cl60 : callable Tryz.prog 60 = true := by kernel_rfl
theorem cl61 : callable Tryz.prog 61 = true := by kernel_rfl
theorem cl62 : callable Tryz.prog 62 = true := by kernel_rfl
theorem cl63 : callable Tryz.prog 63 = true := by kernel_rfl
theorem cl64 : callable Tryz.prog 64 = true := by kernel_rfl
theorem cl65 : callable Tryz.prog 65 = true := by kernel_rfl
theorem cl66 : callable Tryz.prog 66 = true := by kernel_rfl
theorem cl67 : callable Tryz.prog 67 = true := by kernel_rfl
theorem cl68 : callable Tryz.prog 68 = true := by kernel_rfl
theorem cl69 : callable Tryz.prog 69 = true := by kernel_rfl
theorem cl70 : callable Tryz.prog 70 = true := by kernel_rfl
theorem cl71 : callable Tryz.prog 71 = true := by kernel_rfl
theorem cl72 : callable Tryz.prog 72 = true := by kernel_rfl
theorem cl73 : callable Tryz.prog 73 = true := by kernel_rfl
theorem cl74 : callable Tryz.prog 74 = true := by kernel_rfl
theorem cl75 : callable Tryz.prog 75 = true := by kernel_rfl
theorem cl76 : callable Tryz.prog 76 = true := by kernel_rfl
theorem cl77 : callable Tryz.prog 77 = true := by kernel_rfl
theorem cl78 : callable Tryz.prog 78 = true := by kernel_rfl
theorem cl79 : callable Tryz.prog 79 = true := by kernel_rfl
theorem cl80 : callable Tryz.prog 80 = true := by kernel_rfl
theorem cl81 : callable Tryz.prog 81 = true := by kernel_rfl
theorem cl82 : callable Tryz.prog 82 = true := by kernel_rfl
theorem cl83 : callable Tryz.prog 83 = true := by kernel_rfl
theorem cl84 : callable Tryz.prog 84 = true := by kernel_rfl
theorem cl85 : callable Tryz.prog 85 = true := by kernel_rfl
theorem cl86 : callable Tryz.prog 86 = true := by kernel_rfl
theorem cl87 : callable Tryz.prog 87 = true := by kernel_rfl
theorem cl88 : callable Tryz.prog 88 = true := by kernel_rfl
theorem cl89 : callable Tryz.prog 89 = true := by kernel_rfl
theorem cl90 : callable Tryz.prog 90 = true := by kernel_rfl
theorem cl91 : callable Tryz.prog 91 = true := by kernel_rfl
theorem cl92 : callable Tryz.prog 92 = true := by kernel_rfl
theorem cl93 : callable Tryz.prog 93 = true := by kernel_rfl
theorem cl94 : callable Tryz.prog 94 = true := by kernel_rfl
theorem cl95 : callable Tryz.prog 95 = true := by kernel_rfl
theorem cl96 : callable Tryz.prog 96 = true := by kernel_rfl
theorem cl97 : callable Tryz.prog 97 = true := by kernel_rfl
theorem cl98 : callable Tryz.prog 98 = true := by kernel_rfl
theorem cl99 : callable Tryz.prog 99 = true := by kernel_rfl
theorem cl100 : callable Tryz.prog 100 = true := by kernel_rfl
theorem cl101 : callable Tryz.prog 101 = true := by kernel_rfl
theorem cl102 : callable Tryz.prog 102 = true := by kernel_rfl
theorem cl103 : callable Tryz.prog 103 = true := by kernel_rfl
theorem cl104 : callable Tryz.prog 104 = true := by kernel_rfl
theorem cl105 : callable Tryz.prog 105 = true := by kernel_rfl
theorem cl106 : callable Tryz.prog 106 = true := by kernel_rfl
theorem cl107 : callable Tryz.prog 107 = true := by kernel_rfl
theorem cl108 : callable Tryz.prog 108 = true := by kernel_rfl
theorem cl109 : callable Tryz.prog 109 = true := by kernel_rfl
theorem cl110 : callable Tryz.prog 110 = true := by kernel_rfl
theorem cl111 : callable Tryz.prog 111 = true := by kernel_rfl
theorem cl112 : callable Tryz.prog 112 = true := by kernel_rfl
theorem cl113 : callable Tryz.prog 113 = true := by kernel_rfl
theorem cl114 : callable Tryz.prog 114 = true := by kernel_rfl
theorem cl115 : callable Tryz.prog 115 = true := by kernel_rfl
theorem cl116 : callable Tryz.prog 116 = true := by kernel_rfl
theorem cl117 : callable Tryz.prog 117 = true := by kernel_rfl
theorem cl118 : callable Tryz.prog 118 = true := by kernel_rfl
theorem cl119 : callable Tryz.prog 119 = true := by kernel_rfl
theorem cl120 : callable Tryz.prog 120 = true := by kernel_rfl
theorem cl121 : callable Tryz.prog 121 = true := by kernel_rfl
theorem cl122 : callable Tryz.prog 122 = true := by kernel_rfl
theorem cl123 : callable Tryz.prog 123 = true := by kernel_rfl
theorem cl124 : callable Tryz.prog 124 = true := by kernel_rfl
theorem cl125 : callable Tryz.prog 125 = true := by kernel_rfl
theorem cl126 : callable Tryz.prog 126 = true := by kernel_rfl
theorem cl127 : callable Tryz.prog 127 = true := by kernel_rfl
theorem cl128 : callable Tryz.prog 128 = true := by kernel_rfl
theorem cl129 : callable Tryz.prog 129 = true := by kernel_rfl
theorem cl131 : callable Tryz.prog 131 = true := by kernel_rfl
theorem cl132 : callable Tryz.prog 132 = true := by kernel_rfl
theorem cl133 : callable Tryz.prog 133 = true := by kernel_rfl
theorem cl134 : callable Tryz.prog 134 = true := by kernel_rfl
theorem cl136 : callable Tryz.prog 136 = true := by kernel_rfl
theorem cl137 : callable Tryz.prog 137 = true := by kernel_rfl
theorem cl138 : callable Tryz.prog 138 = true := by kernel_rfl
theorem cl139 : callable Tryz.prog 139 = true := by kernel_rfl
theorem cl140 : callable Tryz.prog 140 = true := by kernel_rfl
theorem cl141 : callable Tryz.prog 141 = true := by kernel_rfl
theorem cl142 : callable Tryz.prog 142 = true := by kernel_rfl
theorem cl143 : callable Tryz.prog 143 = true := by kernel_rfl
theorem cl144 : callable Tryz.prog 144 = true := by kernel_rfl
theorem cl145 : callable Tryz.prog 145 = true := by kernel_rfl
theorem cl146 : callable Tryz.prog 146 = true := by kernel_rfl
theorem cl147 : callable Tryz.prog 147 = true := by kernel_rfl
theorem cl148 : callable Tryz.prog 148 = true := by kernel_rfl
theorem cl149 : callable Tryz.prog 149 = true := by kernel_rfl
theorem cl150 : callable Tryz.prog 150 = true := by kernel_rfl
theorem cl151 : callable Tryz.prog 151 = true := by kernel_rfl
theorem cl152 : callable Tryz.prog 152 = true := by kernel_rfl
theorem cl153 : callable Tryz.prog 153 = true := by kernel_rfl
theorem cl154 : callable Tryz.prog 154 = true := by kernel_rfl
theorem cl155 : callable Tryz.prog 155 = true := by kernel_rfl
theorem cl156 : callable Tryz.prog 156 = true := by kernel_rfl
theorem cl157 : callable Tryz.prog 157 = true := by kernel_rfl
theorem cl158 : callable Tryz.prog 158 = true := by kernel_rfl
theorem cl159 : callable Tryz.prog 159 = true := by kernel_rfl
theorem cl160 : callable Tryz.prog 160 = true := by kernel_rfl
theorem cl161 : callable Tryz.prog 161 = true := by kernel_rfl
theorem cl162 : callable Tryz.prog 162 = true := by kernel_rfl
theorem cl163 : callable Tryz.prog 163 = true := by kernel_rfl
theorem cl164 : callable Tryz.prog 164 = true := by kernel_rfl
theorem cl165 : callable Tryz.prog 165 = true := by kernel_rfl
theorem cl166 : callable Tryz.prog 166 = true := by kernel_rfl
theorem cl167 : callable Tryz.prog 167 = true := by kernel_rfl
theorem cl168 : callable Tryz.prog 168 = true := by kernel_rfl
theorem cl169 : callable Tryz.prog 169 = true := by kernel_rfl
theorem cl170 : callable Tryz.prog 170 = true := by kernel_rfl
theorem cl171 : callable Tryz.prog 171 = true := by kernel_rfl
theorem cl172 : callable Tryz.prog 172 = true := by kernel_rfl
theorem cl173 : callable Tryz.prog 173 = true := by kernel_rfl
theorem cl174 : callable Tryz.prog 174 = true := by kernel_rfl
theorem cl175 : callable Tryz.prog 175 = true := by kernel_rfl
theorem cl176 : callable Tryz.prog 176 = true := by kernel_rfl
theorem cl177 : callable Tryz.prog 177 = true := by kernel_rfl
theorem cl178 : callable Tryz.prog 178 = true := by kernel_rfl
theorem cl179 : callable Tryz.prog 179 = true := by kernel_rfl
theorem cl180 : callable Tryz.prog 180 = true := by kernel_rfl
theorem cl181 : callable Tryz.prog 181 = true := by kernel_rfl
theorem cl182 : callable Tryz.prog 182 = true := by kernel_rfl
theorem cl183 : callable Tryz.prog 183 = true := by kernel_rfl
theorem cl184 : callable Tryz.prog 184 = true := by kernel_rfl
theorem cl185 : callable Tryz.prog 185 = true := by kernel_rfl
theorem cl186 : callable Tryz.prog 186 = true := by kernel_rfl
theorem cl187 : callable Tryz.prog 187 = true := by kernel_rfl
theorem cl189 : callable Tryz.prog 189 = true := by kernel_rfl
theorem cl190 : callable Tryz.prog 190 = true := by kernel_rfl
theorem cl192 : callable Tryz.prog 192 = true := by kernel_rfl
theorem cl193 : callable Tryz.prog 193 = true := by kernel_rfl
theorem cl194 : callable Tryz.prog 194 = true := by kernel_rfl
theorem cl195 : callable Tryz.prog 195 = true := by kernel_rfl
theorem cl196 : callable Tryz.prog 196 = true := by kernel_rfl
theorem cl197 : callable Tryz.prog 197 = true := by kernel_rfl
theorem cl198 : callable Tryz.prog 198 = true := by kernel_rfl
theorem cl199 : callable Tryz.prog 199 = true := by kernel_rfl
theorem cl200 : callable Tryz.prog 200 = true := by kernel_rfl
theorem cl201 : callable Tryz.prog 201 = true := by kernel_rfl
theorem cl202 : callable Tryz.prog 202 = true := by kernel_rfl
theorem cl203 : callable Tryz.prog 203 = true := by kernel_rfl
theorem cl204 : callable Tryz.prog 204 = true := by kernel_rfl
theorem cl207 : callable Tryz.prog 207 = true := by kernel_rfl
theorem cl208 : callable Tryz.prog 208 = true := by kernel_rfl
theorem cl209 : callable Tryz.prog 209 = true := by kernel_rfl
theorem cl210 : callable Tryz.prog 210 = true := by kernel_rfl
theorem cl211 : callable Tryz.prog 211 = true := by kernel_rfl
theorem cl212 : callable Tryz.prog 212 = true := by kernel_rfl
theorem cl213 : callable Tryz.prog 213 = true := by kernel_rfl
theorem cl214 : callable Tryz.prog 214 = true := by kernel_rfl
theorem cl215 : callable Tryz.prog 215 = true := by kernel_rfl
theorem cl216 : callable Tryz.prog 216 = true := by kernel_rfl
theorem cl217 : callable Tryz.prog 217 = true := by kernel_rfl
theorem cl218 : callable Tryz.prog 218 = true := by kernel_rfl
theorem cl219 : callable Tryz.prog 219 = true := by kernel_rfl
theorem cl220 : callable Tryz.prog 220 = true := by kernel_rfl
theorem cl221 : callable Tryz.prog 221 = true := by kernel_rfl
theorem cl222 : callable Tryz.prog 222 = true := by kernel_rfl
theorem cl223 : callable Tryz.prog 223 = true := by kernel_rfl
theorem cl224 : callable Tryz.prog 224 = true := by kernel_rfl
theorem cl225 : callable Tryz.prog 225 = true := by kernel_rfl
theorem cl226 : callable Tryz.prog 226 = true := by kernel_rfl
theorem cl227 : callable Tryz.prog 227 = true := by kernel_rfl
theorem cl228 : callable Tryz.prog 228 = true := by kernel_rfl
theorem cl229 : callable Tryz.prog 229 = true := by kernel_rfl
theorem cl230 : callable Tryz.prog 230 = true := by kernel_rfl
theorem cl231 : callable Tryz.prog 231 = true := by kernel_rfl
theorem cl232 : callable Tryz.prog 232 = true := by kernel_rfl
theorem cl233 : callable Tryz.prog 233 = true := by kernel_rfl
theorem cl234 : callable Tryz.prog 234 = true := by kernel_rfl
theorem cl235 : callable Tryz.prog 235 = true := by kernel_rfl
theorem cl236 : callable Tryz.prog 236 = true := by kernel_rfl
theorem cl237 : callable Tryz.prog 237 = true := by kernel_rfl
theorem cl238 : callable Tryz.prog 238 = true := by kernel_rfl
theorem cl239 : callable Tryz.prog 239 = true := by kernel_rfl
theorem cl240 : callable Tryz.prog 240 = true := by kernel_rfl
theorem cl241 : callable Tryz.prog 241 = true := by kernel_rfl
theorem cl242 : callable Tryz.prog 242 = true := by kernel_rfl
theorem cl243 : callable Tryz.prog 243 = true := by kernel_rfl
theorem cl244 : callable Tryz.prog 244 = true := by kernel_rfl
theorem cl245 : callable Tryz.prog 245 = true := by kernel_rfl
theorem cl246 : callable Tryz.prog 246 = true := by kernel_rfl
theorem cl247 : callable Tryz.prog 247 = true := by kernel_rfl
theorem cl248 : callable Tryz.prog 248 = true := by kernel_rfl
theorem cl249 : callable Tryz.prog 249 = true := by kernel_rfl
theorem cl250 : callable Tryz.prog 250 = true := by kernel_rfl
theorem cl251 : callable Tryz.prog 251 = true := by kernel_rfl
theorem cl252 : callable Tryz.prog 252 = true := by kernel_rfl
theorem cl253 : callable Tryz.prog 253 = true := by kernel_rfl
theorem cl254 : callable Tryz.prog 254 = true := by kernel_rfl
theorem cl255 : callable Tryz.prog 255 = true := by kernel_rfl
theorem cl256 : callable Tryz.prog 256 = true := by kernel_rfl
theorem cl257 : callable Tryz.prog 257 = true := by kernel_rfl
theorem cl258 : callable Tryz.prog 258 = true := by kernel_rfl
theorem cl259 : callable Tryz.prog 259 = true := by kernel_rfl
theorem tz3 : tzero Tryz.prog 3 = some [.v (.int .i64 0)] := by kernel_rfl
theorem tz26 : tzero Tryz.prog 26 = some [.nilS, .nilS, .nilS, .v (.int .i64 0), .v (.int .i64 0)] := by kernel_rfl
theorem tz45 : tzero Tryz.prog 45 = some [.v (.int .i64 0), .v (.int .i64 0)] := by kernel_rfl
theorem tz49 : tzero Tryz.prog 49 = some [.v (.string ⟨#[]⟩), .v (.string ⟨#[]⟩), .v (.int .i64 0), .v (.int .i64 0), .v (.bool false)] := by kernel_rfl
theorem tz58 : tzero Tryz.prog 58 = some [.nilS, .nilS, .v (.bool false), .v (.int .i64 0), .v (.int .i64 0)] := by kernel_rfl
theorem tz63 : tzero Tryz.prog 63 = some [.v (.string ⟨#[]⟩), .v (.string ⟨#[]⟩), .v (.int .i64 0), .v (.int .i64 0), .v (.int .i64 0), .v (.int .i64 0)] := by kernel_rfl
theorem tz65 : tzero Tryz.prog 65 = some [.v (.string ⟨#[]⟩), .v (.string ⟨#[]⟩), .v (.string ⟨#[]⟩), .v (.bool false), .v (.int .i64 0), .v (.int .i64 0), .v (.int .i64 0), .v (.bool false)] := by kernel_rfl
theorem tz69 : tzero Tryz.prog 69 = some [.v (.string ⟨#[]⟩), .v (.string ⟨#[]⟩), .v (.string ⟨#[]⟩), .v (.string ⟨#[]⟩), .v (.string ⟨#[]⟩), .v (.int .i64 0), .v (.bool false), .v (.int .i64 0), .v (.int .i64 0), .v (.int .i64 0)] := by kernel_rfl
theorem tz86 : tzero Tryz.prog 86 = some [.nilS, .nilS, .nilS, .v (.int .i64 0), .v (.int .i64 0), .nilS, .v (.int .i64 0), .v (.bool false)] := by kernel_rfl
theorem tz106 : tzero Tryz.prog 106 = some [.v (.string ⟨#[]⟩), .v (.string ⟨#[]⟩), .v (.string ⟨#[]⟩), .v (.string ⟨#[]⟩), .v (.bool false), .v (.int .i64 0), .v (.int .i64 0), .v (.int .i64 0), .v (.bool false)] := by kernel_rfl
theorem tz169 : tzero Tryz.prog 169 = some [.v (.int .i64 0), .v (.bool false), .v (.bool false), .v (.int .i64 0)] := by kernel_rfl
theorem tz176 : tzero Tryz.prog 176 = some [.v (.string ⟨#[]⟩), .v (.string ⟨#[]⟩)] := by kernel_rfl
theorem tz222 : tzero Tryz.prog 222 = some [.v (.bool false), .v (.bool false), .v (.bool false), .v (.bool false), .v (.bool false)] := by kernel_rfl
theorem tz243 : tzero Tryz.prog 243 = some [.v (.int .u64 0)] := by kernel_rfl
theorem bs26 : buildS Tryz.prog 26 = some [(0, 1), (1, 1), (2, 1), (3, 1), (4, 1)] := by kernel_rfl
theorem bs45 : buildS Tryz.prog 45 = some [(0, 1), (1, 1)] := by kernel_rfl
theorem bs49 : buildS Tryz.prog 49 = some [(0, 1), (1, 1), (2, 1), (3, 1), (4, 1)] := by kernel_rfl
theorem bs58 : buildS Tryz.prog 58 = some [(0, 1), (1, 1), (2, 1), (3, 1), (4, 1)] := by kernel_rfl
theorem bs63 : buildS Tryz.prog 63 = some [(0, 1), (1, 1), (2, 1), (3, 1), (4, 1), (5, 1)] := by kernel_rfl
theorem bs65 : buildS Tryz.prog 65 = some [(0, 1), (1, 1), (2, 1), (3, 1), (4, 1), (5, 1), (6, 1), (7, 1)] := by kernel_rfl
theorem bs69 : buildS Tryz.prog 69 = some [(0, 1), (1, 1), (2, 1), (3, 1), (4, 1), (5, 1), (6, 1), (7, 1), (8, 1), (9, 1)] := by kernel_rfl
theorem bs106 : buildS Tryz.prog 106 = some [(0, 1), (1, 1), (2, 1), (3, 1), (4, 1), (5, 1), (6, 1), (7, 1), (8, 1)] := by kernel_rfl
theorem bs169 : buildS Tryz.prog 169 = some [(0, 1), (1, 1), (2, 1), (3, 1)] := by kernel_rfl
theorem bs176 : buildS Tryz.prog 176 = some [(0, 1), (1, 1)] := by kernel_rfl
theorem ud2 : Tryz.prog.underlying 2 = some (.int (Go.IntKind.i64)) := by kernel_rfl
theorem ud3 : Tryz.prog.underlying 3 = some (.int (Go.IntKind.i64)) := by kernel_rfl
theorem ud4 : Tryz.prog.underlying 4 = some (.bool) := by kernel_rfl
theorem ud5 : Tryz.prog.underlying 5 = some (.int (Go.IntKind.u8)) := by kernel_rfl
theorem ud9 : Tryz.prog.underlying 9 = some (.string) := by kernel_rfl
theorem ud22 : Tryz.prog.underlying 22 = some (.slice 65) := by kernel_rfl
theorem ud23 : Tryz.prog.underlying 23 = some (.slice 106) := by kernel_rfl
theorem ud24 : Tryz.prog.underlying 24 = some (.slice 9) := by kernel_rfl
theorem ud27 : Tryz.prog.underlying 27 = some (.slice 49) := by kernel_rfl
theorem ud31 : Tryz.prog.underlying 31 = some (.slice 27) := by kernel_rfl
theorem ud32 : Tryz.prog.underlying 32 = some (.int (Go.IntKind.i64)) := by kernel_rfl
theorem ud53 : Tryz.prog.underlying 53 = some (.int (Go.IntKind.u32)) := by kernel_rfl
theorem ud54 : Tryz.prog.underlying 54 = some (.int (Go.IntKind.u16)) := by kernel_rfl
theorem ud55 : Tryz.prog.underlying 55 = some (.slice 86) := by kernel_rfl
theorem ud56 : Tryz.prog.underlying 56 = some (.slice 63) := by kernel_rfl
theorem ud73 : Tryz.prog.underlying 73 = some (.slice 77) := by kernel_rfl
theorem ud91 : Tryz.prog.underlying 91 = some (.slice 69) := by kernel_rfl
theorem ud92 : Tryz.prog.underlying 92 = some (.slice 4) := by kernel_rfl
theorem ud174 : Tryz.prog.underlying 174 = some (.slice 176) := by kernel_rfl
theorem ud187 : Tryz.prog.underlying 187 = some (.slice 2) := by kernel_rfl
theorem ud201 : Tryz.prog.underlying 201 = some (.int (Go.IntKind.u64)) := by kernel_rfl
theorem ud205 : Tryz.prog.underlying 205 = some (.int (Go.IntKind.u64)) := by kernel_rfl
theorem ud217 : Tryz.prog.underlying 217 = some (.slice 3) := by kernel_rfl
theorem ud222 : Tryz.prog.underlying 222 = some (.array 5 4) := by kernel_rfl
theorem ud225 : Tryz.prog.underlying 225 = some (.int (Go.IntKind.i64)) := by kernel_rfl
theorem ud243 : Tryz.prog.underlying 243 = some (.int (Go.IntKind.u64)) := by kernel_rfl
attribute [go_sem] ld2 ld3 ld4 ld5 ld9 ld22 ld23 ld24 ld26 ld27 ld45 ld49 ld55 ld56 ld58 ld63 ld65 ld69 ld77 ld86 ld106 ld176 ld243 fi26_0 fi26_1 fi26_2 fi26_3 fi26_4 fi45_0 fi45_1 fi49_0 fi49_1 fi49_2 fi49_3 fi49_4 fi58_0 fi58_1 fi58_2 fi58_3 fi58_4 fi63_0 fi63_1 fi63_2 fi63_3 fi63_4 fi63_5 fi65_0 fi65_1 fi65_2 fi65_3 fi65_4 fi65_5 fi65_6 fi65_7 fi69_0 fi69_1 fi69_2 fi69_3 fi69_4 fi69_5 fi69_6 fi69_7 fi69_8 fi69_9 fi77_0 fi77_1 fi77_2 fi77_3 fi77_4 fi77_5 fi77_6 fi77_7 fi86_0 fi86_1 fi86_2 fi86_3 fi106_0 fi106_1 fi106_2 fi106_3 fi106_4 fi106_5 fi106_6 fi106_7 fi106_8 fi169_0 fi169_1 fi169_2 fi169_3 fi176_0 fi176_1 ix22 ix23 ix24 ix27 ix31 ix55 ix56 ix73 ix91 ix92 ix174 ix187 ix217 ix222 ap22 ap23 ap24 ap27 ap31 ap55 ap56 ap174 ap187 ap217 sz2 sz3 sz4 sz9 sz22 sz23 sz24 sz26 sz27 sz45 sz49 sz55 sz56 sz58 sz63 sz65 sz69 sz77 sz86 sz106 sz169 sz176 sz222 sz243 sr22 sr23 sr24 sr27 sr31 sr55 sr56 sr174 sr187 fk45 fk49 fk63 fk65 fk106 fk176 cl10 cl11 cl12 cl13 cl14 cl15 cl16 cl17 cl18 cl19 cl20 cl21 cl22 cl23 cl24 cl25 cl26 cl27 cl28 cl29 cl30 cl31 cl32 cl33 cl34 cl35 cl36 cl37 cl38 cl39 cl40 cl41 cl42 cl43 cl44 cl45 cl46 cl47 cl48 cl49 cl50 cl51 cl52 cl53 cl54 cl55 cl56 cl57 cl58 cl59 cl60 cl61 cl62 cl63 cl64 cl65 cl66 cl67 cl68 cl69 cl70 cl71 cl72 cl73 cl74 cl75 cl76 cl77 cl78 cl79 cl80 cl81 cl82 cl83 cl84 cl85 cl86 cl87 cl88 cl89 cl90 cl91 cl92 cl93 cl94 cl95 cl96 cl97 cl98 cl99 cl100 cl101 cl102 cl103 cl104 cl105 cl106 cl107 cl108 cl109 cl110 cl111 cl112 cl113 cl114 cl115 cl116 cl117 cl118 cl119 cl120 cl121 cl122 cl123 cl124 cl125 cl126 cl127 cl128 cl129 cl131 cl132 cl133 cl134 cl136 cl137 cl138 cl139 cl140 cl141 cl142 cl143 cl144 cl145 cl146 cl147 cl148 cl149 cl150 cl151 cl152 cl153 cl154 cl155 cl156 cl157 cl158 cl159 cl160 cl161 cl162 cl163 cl164 cl165 cl166 cl167 cl168 cl169 cl170 cl171 cl172 cl173 cl174 cl175 cl176 cl177 cl178 cl179 cl180 cl181 cl182 cl183 cl184 cl185 cl186 cl187 cl189 cl190 cl192 cl193 cl194 cl195 cl196 cl197 cl198 cl199 cl200 cl201 cl202 cl203 cl204 cl207 cl208 cl209 cl210 cl211 cl212 cl213 cl214 cl215 cl216 cl217 cl218 cl219 cl220 cl221 cl222 cl223 cl224 cl225 cl226 cl227 cl228 cl229 cl230 cl231 cl232 cl233 cl234 cl235 cl236 cl237 cl238 cl239 cl240 cl241 cl242 cl243 cl244 cl245 cl246 cl247 cl248 cl249 cl250 cl251 cl252 cl253 cl254 cl255 cl256 cl257 cl258 cl259 tz3 tz26 tz45 tz49 tz58 tz63 tz65 tz69 tz86 tz106 tz169 tz176 tz222 tz243 bs26 bs45 bs49 bs58 bs63 bs65 bs69 bs106 bs169 bs176 ud2 ud3 ud4 ud5 ud9 ud22 ud23 ud24 ud27 ud31 ud32 ud53 ud54 ud55 ud56 ud73 ud91 ud92 ud174 ud187 ud201 ud205 ud217 ud222 ud225 ud243
end Go.Proofs.YtajeeghgiilhiaaGreat
end
section
/- The world that the walks are in; the values of orders, executions, fills. -/
namespace Go.Proofs.YtajeeghgiilhiaaGreat
open Go Go.Abs Go.RowKit Go.Bk
set_option linter.unusedVariables false
set_option linter.unusedSimpArgs false

noncomputable def E : Env := { P := Tryz.prog, ok := fun _ => True, mono := fun _ _ _ h => h, gl := fun _ => none }
/-- The same, where draws are counted. -/
noncomputable def ED : Env := { P := Tryz.prog, ok := fun _ => True, mono := fun _ _ _ h => h, gl := fun _ => none, dr := True }
@[go_sem] theorem ED_P : ED.P = Tryz.prog := rfl
@[go_sem] theorem ED_gl : ED.gl = fun _ => none := rfl
@[go_sem] theorem E_P : E.P = Tryz.prog := rfl
@[go_sem] theorem E_gl : E.gl = fun _ => none := rfl

abbrev odV (o : Od) : AV := .agg [str o.id, str o.acc, str o.sym, bl o.buy, i64 o.qty, i64 o.price, i64 o.done, bl o.opn]
abbrev exV (x : Ex) : AV := .agg [str x.id, str x.ref, str x.ord, str x.acc, str x.sym, i64 x.kind, bl x.buy, i64 x.qty, i64 x.price, i64 x.time]
abbrev dnV (f : Dn) : AV := .agg [str f.id, str f.ord, str f.acc, str f.sym, bl f.buy, i64 f.qty, i64 f.price, i64 f.time, bl f.live]
abbrev odsV (l : List Od) : AV := .sl none 8 (l.map odV)
abbrev dnsV (l : List Dn) : AV := .sl none 9 (l.map dnV)
theorem cl_str (s : Bs) : ∀ x ∈ (AV.agg [str s]).leaves, x.clean1 = some x := by
  intro x hx
  simp only [AV.leaves, List.mem_cons, List.not_mem_nil, or_false] at hx
  subst hx; rfl
theorem left_yes {o : Od} (h1 : mayB o = true) (h2 : o.opn = true) : IntKind.i64.wrap (o.qty - o.done) = leftF o := by
  have h := h1
  simp only [mayB, smallB, Bool.and_eq_true, decide_eq_true_eq] at h
  rw [wrap64_id (by omega) (by omega)]
  simp [leftF, h1, h2]
end Go.Proofs.YtajeeghgiilhiaaGreat
end
section
set_option linter.unusedVariables false
set_option linter.unusedSimpArgs false
namespace Go.Proofs.YtajeeghgiilhiaaGreat
open Go Go.Abs Go.RowKit Go.Bk

set_option maxHeartbeats 4000000 in
set_option maxRecDepth 8000 in
theorem onamed_c (s : Bs) : ACalls E 150 [str s] (fun r t => r = bl (namedB s) ∧ t = []) := by -- checkroll/order.named
  refine ACalls.of_awp (n := 10) (rs := [.tmp 2]) Tryz.func150 rfl Tryz.ntmps150 rfl ?_
  refine AWP.seqk fun K1 hK1 => ?_
  refine AWP.region ?_
  simp only [go_sem] -- region 0
  repeat' (first | (refine AGet.haveM (by assumption) ?_; (try simp only [go_sem])) | (refine AGet.have' (by assumption) ?_; (try simp only [go_sem])) | ((first | refine AGet.nth ?_ (fun b hb => ?_) | refine AGet.nth1 ?_ (fun b hb => ?_) | with_reducible refine And.intro ?_ ?_); (focus ((first | omega | exact List.length_pos_iff.2 (by assumption) | (simp only [List.length_append, List.length_cons, List.length_nil, List.length_map, List.length_take, List.length_drop] at *; omega) | (rw [wrap64_id (by omega) (by omega)]; omega) | (simp; done)))); (try simp only [hb, go_sem])))
  refine hK1 _ ?_; clear hK1 K1
  refine AWP.seqk fun K2 hK2 => ?_
  refine AWP.region ?_
  simp only [go_sem] -- region 1
  repeat' (first | (refine AGuard.splitN (fun h => ?_) (fun h => ?_) <;> simp only [h, go_sem] <;> try simp only [dD] at h) | (refine AGuard.split (fun h => ?_) (fun h => ?_) <;> simp only [h, go_sem] <;> try simp only [dD] at h) | (refine AGet.haveM (by assumption) ?_; (try simp only [go_sem])) | (refine AGet.have' (by assumption) ?_; (try simp only [go_sem])) | ((first | refine AGet.nth ?_ (fun b hb => ?_) | refine AGet.nth1 ?_ (fun b hb => ?_) | with_reducible refine And.intro ?_ ?_); (focus ((first | omega | exact List.length_pos_iff.2 (by assumption) | (simp only [List.length_append, List.length_cons, List.length_nil, List.length_map, List.length_take, List.length_drop] at *; omega) | (rw [wrap64_id (by omega) (by omega)]; omega) | (simp; done)))); (try simp only [hb, go_sem])))
  all_goals (
    refine hK2 _ ?_; clear hK2 K2
    refine AWP.ret ?_
    try simp only [go_sem]
    exact ⟨[], .v _, rfl, rfl, by simp_all [namedB] <;> omega, rfl⟩)


set_option maxHeartbeats 4000000 in
set_option maxRecDepth 8000 in
theorem oamount_c (n : Int) : ACalls E 151 [i64 n] (fun r t => r = bl (smallB n) ∧ t = []) := by -- checkroll/order.amount
  refine ACalls.of_awp (n := 9) (rs := [.tmp 2]) Tryz.func151 rfl Tryz.ntmps151 rfl ?_
  refine AWP.seqk fun K1 hK1 => ?_
  refine AWP.region ?_
  simp only [go_sem] -- region 0
  repeat' (first | (refine AGet.haveM (by assumption) ?_; (try simp only [go_sem])) | (refine AGet.have' (by assumption) ?_; (try simp only [go_sem])) | ((first | refine AGet.nth ?_ (fun b hb => ?_) | refine AGet.nth1 ?_ (fun b hb => ?_) | with_reducible refine And.intro ?_ ?_); (focus ((first | omega | exact List.length_pos_iff.2 (by assumption) | (simp only [List.length_append, List.length_cons, List.length_nil, List.length_map, List.length_take, List.length_drop] at *; omega) | (rw [wrap64_id (by omega) (by omega)]; omega) | (simp; done)))); (try simp only [hb, go_sem])))
  refine hK1 _ ?_; clear hK1 K1
  refine AWP.seqk fun K2 hK2 => ?_
  refine AWP.region ?_
  simp only [go_sem] -- region 1
  repeat' (first | (refine AGuard.splitN (fun h => ?_) (fun h => ?_) <;> simp only [h, go_sem] <;> try simp only [dD] at h) | (refine AGuard.split (fun h => ?_) (fun h => ?_) <;> simp only [h, go_sem] <;> try simp only [dD] at h) | (refine AGet.haveM (by assumption) ?_; (try simp only [go_sem])) | (refine AGet.have' (by assumption) ?_; (try simp only [go_sem])) | ((first | refine AGet.nth ?_ (fun b hb => ?_) | refine AGet.nth1 ?_ (fun b hb => ?_) | with_reducible refine And.intro ?_ ?_); (focus ((first | omega | exact List.length_pos_iff.2 (by assumption) | (simp only [List.length_append, List.length_cons, List.length_nil, List.length_map, List.length_take, List.length_drop] at *; omega) | (rw [wrap64_id (by omega) (by omega)]; omega) | (simp; done)))); (try simp only [hb, go_sem])))
  all_goals (
    refine hK2 _ ?_; clear hK2 K2
    refine AWP.ret ?_
    try simp only [go_sem]
    exact ⟨[], .v _, rfl, rfl, by simp_all [smallB] <;> omega, rfl⟩)


set_option maxHeartbeats 4000000 in
set_option maxRecDepth 8000 in
theorem bamount_c (n : Int) : ACalls E 101 [i64 n] (fun r t => r = bl (smallB n) ∧ t = []) := by -- checkroll/book.amount
  refine ACalls.of_awp (n := 9) (rs := [.tmp 2]) Tryz.func101 rfl Tryz.ntmps101 rfl ?_
  refine AWP.seqk fun K1 hK1 => ?_
  refine AWP.region ?_
  simp only [go_sem] -- region 0
  repeat' (first | (refine AGet.haveM (by assumption) ?_; (try simp only [go_sem])) | (refine AGet.have' (by assumption) ?_; (try simp only [go_sem])) | ((first | refine AGet.nth ?_ (fun b hb => ?_) | refine AGet.nth1 ?_ (fun b hb => ?_) | with_reducible refine And.intro ?_ ?_); (focus ((first | omega | exact List.length_pos_iff.2 (by assumption) | (simp only [List.length_append, List.length_cons, List.length_nil, List.length_map, List.length_take, List.length_drop] at *; omega) | (rw [wrap64_id (by omega) (by omega)]; omega) | (simp; done)))); (try simp only [hb, go_sem])))
  refine hK1 _ ?_; clear hK1 K1
  refine AWP.seqk fun K2 hK2 => ?_
  refine AWP.region ?_
  simp only [go_sem] -- region 1
  repeat' (first | (refine AGuard.splitN (fun h => ?_) (fun h => ?_) <;> simp only [h, go_sem] <;> try simp only [dD] at h) | (refine AGuard.split (fun h => ?_) (fun h => ?_) <;> simp only [h, go_sem] <;> try simp only [dD] at h) | (refine AGet.haveM (by assumption) ?_; (try simp only [go_sem])) | (refine AGet.have' (by assumption) ?_; (try simp only [go_sem])) | ((first | refine AGet.nth ?_ (fun b hb => ?_) | refine AGet.nth1 ?_ (fun b hb => ?_) | with_reducible refine And.intro ?_ ?_); (focus ((first | omega | exact List.length_pos_iff.2 (by assumption) | (simp only [List.length_append, List.length_cons, List.length_nil, List.length_map, List.length_take, List.length_drop] at *; omega) | (rw [wrap64_id (by omega) (by omega)]; omega) | (simp; done)))); (try simp only [hb, go_sem])))
  all_goals (
    refine hK2 _ ?_; clear hK2 K2
    refine AWP.ret ?_
    try simp only [go_sem]
    exact ⟨[], .v _, rfl, rfl, by simp_all [smallB] <;> omega, rfl⟩)


set_option maxHeartbeats 4000000 in
set_option maxRecDepth 8000 in
theorem omay_c (o : Od) : ACalls E 79 [odV o] (fun r t => r = bl (mayB o) ∧ t = []) := by -- checkroll/order.May
  refine ACalls.of_awp (n := 38) (rs := [.tmp 2]) Tryz.func79 rfl Tryz.ntmps79 rfl ?_
  refine AWP.seqk fun K1 hK1 => ?_
  refine AWP.region ?_
  simp only [go_sem] -- region 0
  repeat' (first | (refine AGet.haveM (by assumption) ?_; (try simp only [go_sem])) | (refine AGet.have' (by assumption) ?_; (try simp only [go_sem])) | ((first | refine AGet.nth ?_ (fun b hb => ?_) | refine AGet.nth1 ?_ (fun b hb => ?_) | with_reducible refine And.intro ?_ ?_); (focus ((first | omega | exact List.length_pos_iff.2 (by assumption) | (simp only [List.length_append, List.length_cons, List.length_nil, List.length_map, List.length_take, List.length_drop] at *; omega) | (rw [wrap64_id (by omega) (by omega)]; omega) | (simp; done)))); (try simp only [hb, go_sem])))
  refine hK1 _ ?_; clear hK1 K1
  refine AWP.seqk fun K2 hK2 => ?_
  refine AWP.region ?_
  simp only [go_sem] -- region 1
  repeat' (first | (refine ACall.one (onamed_c _) (by kernel_rfl) rfl ?_; simp only [go_sem]) | (refine ACall.one (oamount_c _) (by kernel_rfl) rfl ?_; simp only [go_sem]) | (refine AGuard.splitN (fun h => ?_) (fun h => ?_) <;> simp only [h, go_sem] <;> try simp only [dD] at h) | (refine AGuard.split (fun h => ?_) (fun h => ?_) <;> simp only [h, go_sem] <;> try simp only [dD] at h) | (refine AGet.haveM (by assumption) ?_; (try simp only [go_sem])) | (refine AGet.have' (by assumption) ?_; (try simp only [go_sem])) | ((first | refine AGet.nth ?_ (fun b hb => ?_) | refine AGet.nth1 ?_ (fun b hb => ?_) | with_reducible refine And.intro ?_ ?_); (focus ((first | omega | exact List.length_pos_iff.2 (by assumption) | (simp only [List.length_append, List.length_cons, List.length_nil, List.length_map, List.length_take, List.length_drop] at *; omega) | (rw [wrap64_id (by omega) (by omega)]; omega) | (simp; done)))); (try simp only [hb, go_sem])))
  all_goals (
    refine hK2 _ ?_; clear hK2 K2
    refine AWP.ret ?_
    try simp only [go_sem]
    exact ⟨[], .v _, rfl, rfl, by (simp_all [mayB] <;> (intros; omega)), rfl⟩)


set_option maxHeartbeats 4000000 in
set_option maxRecDepth 8000 in
theorem oleft_c (o : Od) : ACalls E 111 [odV o] (fun r t => r = i64 (leftF o) ∧ t = []) := by -- checkroll/order.Left
  refine ACalls.of_awp (n := 16) (rs := [.tmp 2]) Tryz.func111 rfl Tryz.ntmps111 rfl ?_
  refine AWP.seqk fun K1 hK1 => ?_
  refine AWP.region ?_
  simp only [go_sem] -- region 0
  repeat' (first | (refine AGet.haveM (by assumption) ?_; (try simp only [go_sem])) | (refine AGet.have' (by assumption) ?_; (try simp only [go_sem])) | ((first | refine AGet.nth ?_ (fun b hb => ?_) | refine AGet.nth1 ?_ (fun b hb => ?_) | with_reducible refine And.intro ?_ ?_); (focus ((first | omega | exact List.length_pos_iff.2 (by assumption) | (simp only [List.length_append, List.length_cons, List.length_nil, List.length_map, List.length_take, List.length_drop] at *; omega) | (rw [wrap64_id (by omega) (by omega)]; omega) | (simp; done)))); (try simp only [hb, go_sem])))
  refine hK1 _ ?_; clear hK1 K1
  refine AWP.seqk fun K2 hK2 => ?_
  refine AWP.seqk fun K3 hK3 => ?_
  refine AWP.region ?_
  simp only [go_sem] -- region 1
  repeat' (first | (refine ACall.one (omay_c _) (by kernel_rfl) rfl ?_; simp only [go_sem]) | (refine AGuard.splitN (fun h => ?_) (fun h => ?_) <;> simp only [h, go_sem] <;> try simp only [dD] at h) | (refine AGuard.split (fun h => ?_) (fun h => ?_) <;> simp only [h, go_sem] <;> try simp only [dD] at h) | (refine AGet.haveM (by assumption) ?_; (try simp only [go_sem])) | (refine AGet.have' (by assumption) ?_; (try simp only [go_sem])) | ((first | refine AGet.nth ?_ (fun b hb => ?_) | refine AGet.nth1 ?_ (fun b hb => ?_) | with_reducible refine And.intro ?_ ?_); (focus ((first | omega | exact List.length_pos_iff.2 (by assumption) | (simp only [List.length_append, List.length_cons, List.length_nil, List.length_map, List.length_take, List.length_drop] at *; omega) | (rw [wrap64_id (by omega) (by omega)]; omega) | (simp; done)))); (try simp only [hb, go_sem])))
  all_goals (
    refine hK3 _ ?_; clear hK3 K3
    refine AWP.cond rfl (fun c10 => ?_) (fun c10 => ?_)
    · first | exact Bool.noConfusion c10 | (
        try simp only [dD] at c10
        refine AWP.seqk fun K4 hK4 => ?_
        refine AWP.region ?_
        simp only [go_sem] -- region 2
        repeat' (first | (refine AGet.haveM (by assumption) ?_; (try simp only [go_sem])) | (refine AGet.have' (by assumption) ?_; (try simp only [go_sem])) | ((first | refine AGet.nth ?_ (fun b hb => ?_) | refine AGet.nth1 ?_ (fun b hb => ?_) | with_reducible refine And.intro ?_ ?_); (focus ((first | omega | exact List.length_pos_iff.2 (by assumption) | (simp only [List.length_append, List.length_cons, List.length_nil, List.length_map, List.length_take, List.length_drop] at *; omega) | (rw [wrap64_id (by omega) (by omega)]; omega) | (simp; done)))); (try simp only [hb, go_sem])))
        refine hK4 _ ?_; clear hK4 K4
        refine AWP.ret ?_
        try simp only [go_sem]
        clear hK2 K2
        exact ⟨[], .v _, rfl, rfl, by (first | (simp_all [leftF]; done) | (rw [left_yes (by assumption) (by assumption)])), rfl⟩)
    · first | exact Bool.noConfusion c10 | (
        try simp only [dD] at c10
        refine AWP.skip ?_
        refine hK2 _ ?_; clear hK2 K2
        refine AWP.seqk fun K5 hK5 => ?_
        refine AWP.region ?_
        simp only [go_sem] -- region 3
        repeat' (first | (refine AGet.haveM (by assumption) ?_; (try simp only [go_sem])) | (refine AGet.have' (by assumption) ?_; (try simp only [go_sem])) | ((first | refine AGet.nth ?_ (fun b hb => ?_) | refine AGet.nth1 ?_ (fun b hb => ?_) | with_reducible refine And.intro ?_ ?_); (focus ((first | omega | exact List.length_pos_iff.2 (by assumption) | (simp only [List.length_append, List.length_cons, List.length_nil, List.length_map, List.length_take, List.length_drop] at *; omega) | (rw [wrap64_id (by omega) (by omega)]; omega) | (simp; done)))); (try simp only [hb, go_sem])))
        refine hK5 _ ?_; clear hK5 K5
        refine AWP.ret ?_
        try simp only [go_sem]
        exact ⟨[], .v _, rfl, rfl, by (first | (simp_all [leftF]; done) | (rw [left_yes (by assumption) (by assumption)])), rfl⟩))


set_option maxHeartbeats 4000000 in
set_option maxRecDepth 8000 in
theorem place1_c (o : Od) (id : Bs) : ACalls E 195 [odV o, .rptr [str id]] (fun r t => r = bl (decide (o.id = id)) ∧ t = []) := by -- checkroll/order.place$1
  refine ACalls.of_awp (n := 8) (rs := [.tmp 3]) Tryz.func195 rfl Tryz.ntmps195 rfl ?_
  refine AWP.seqk fun K1 hK1 => ?_
  refine AWP.region ?_
  simp only [go_sem] -- region 0
  repeat' (first | (refine AGet.haveM (by assumption) ?_; (try simp only [go_sem])) | (refine AGet.have' (by assumption) ?_; (try simp only [go_sem])) | ((first | refine AGet.nth ?_ (fun b hb => ?_) | refine AGet.nth1 ?_ (fun b hb => ?_) | with_reducible refine And.intro ?_ ?_); (focus ((first | omega | exact List.length_pos_iff.2 (by assumption) | (simp only [List.length_append, List.length_cons, List.length_nil, List.length_map, List.length_take, List.length_drop] at *; omega) | (rw [wrap64_id (by omega) (by omega)]; omega) | (simp; done)))); (try simp only [hb, go_sem])))
  refine hK1 _ ?_; clear hK1 K1
  refine AWP.seqk fun K2 hK2 => ?_
  refine AWP.region ?_
  simp only [go_sem] -- region 1
  repeat' (first | (refine AGet.haveM (by assumption) ?_; (try simp only [go_sem])) | (refine AGet.have' (by assumption) ?_; (try simp only [go_sem])) | ((first | refine AGet.nth ?_ (fun b hb => ?_) | refine AGet.nth1 ?_ (fun b hb => ?_) | with_reducible refine And.intro ?_ ?_); (focus ((first | omega | exact List.length_pos_iff.2 (by assumption) | (simp only [List.length_append, List.length_cons, List.length_nil, List.length_map, List.length_take, List.length_drop] at *; omega) | (rw [wrap64_id (by omega) (by omega)]; omega) | (simp; done)))); (try simp only [hb, go_sem])))
  refine hK2 _ ?_; clear hK2 K2
  refine AWP.ret ?_
  try simp only [go_sem]
  exact ⟨[], .v _, rfl, rfl, by simp_all, rfl⟩


end Go.Proofs.YtajeeghgiilhiaaGreat
end
section
/- Several texts of one chain, put together (Lf, Lg, Lj, Lk, Lh, Li). -/
/- A literal without elements, as a row of one's own. -/
set_option linter.unusedVariables false
set_option linter.unusedSimpArgs false
namespace Go.Abs
open Go Go.RowKit
end Go.Abs

/- Plans where what is appended goes to rows by content: what looks into memory may change places with an append. -/
set_option linter.unusedVariables false
set_option linter.unusedSimpArgs false
namespace Go.Abs
open Go Go.RowKit
def notMu : AV → Bool
  | .mu _ _ _ _ _ => false
  | _ => true
/-- What is appended to is no row of one's own. -/
def tokOp (st : St) : Option Oper → Prop
  | some o => match o.op with
    | .call cl => match cl.callee, cl.args.toList with
      | .builtin .append, x :: _ => notMu (st.ev x) = true
      | _, _ => True
    | _ => True
  | none => True
def setOp : Op → Bool
  | .store .. => true
  | _ => false
def AStepT (E : Env) (ops : Array Oper) (i : Nat) (C : St → Prop) (st : St) : Prop := tokOp st ops[i]? ∧ AStep E ops i C st
def APlanT (E : Env) (ops : Array Oper) (K : St → Prop) : Plan → St → Prop
  | .done, st => K st
  | .take i p, st => AStepT E ops i (APlanT E ops K p) st
  | .fork p, st => APlanT E ops K p st
  | .alt i p rest, st => AStepT E ops i (APlanT E ops K p) st ∧ APlanT E ops K rest st
  | .ends, _ => True
def AAnyT (E : Env) (ops : Array Oper) (K : St → Prop) : Nat → Array Bool → St → Prop
  | 0, L, st => Region.ready .any ops L = [] ∧ K st
  | n + 1, L, st => (Region.ready .any ops L = [] → K st) ∧ ∀ i ∈ Region.ready .any ops L, AStepT E ops i (AAnyT E ops K n (L.setIfInBounds i true)) st
def swapTB (P : Program) (ops : Array Oper) (p o : Oper) : Bool :=
  (lightOp P p.op && detOp P p.op && (!setOp o.op || !loadOp p.op)) &&
  (match p.dst with | none => true | some d => !(Oper.looksAt ops o).contains d && o.dst != some d) &&
  (match o.dst with | none => true | some d => !(Oper.looksAt ops p).contains d)
def freeT (P : Program) (ops : Array Oper) (anc : List (List Nat)) (L : Array Bool) (p : Nat) : Bool :=
  match ops[p]? with
  | none => false
  | some x => (List.range ops.size).all fun o => o == p || L.getD o true || (anc.getD o []).contains p || (match ops[o]? with | none => true | some y => swapTB P ops x y)
def planOKT (P : Program) (ops : Array Oper) (anc : List (List Nat)) : Bool → Plan → Array Bool → Nat → Bool
  | b, .done, L, _ => b && (Region.ready .any ops L).isEmpty
  | b, .take i p, L, n => b && (match n with | 0 => false | m + 1 => (Region.ready .any ops L).contains i && freeT P ops anc L i && planOKT P ops anc true p (L.setIfInBounds i true) m)
  | b, .fork p, L, n => b && (p.alts == Region.ready .any ops L) && !p.alts.isEmpty && planOKT P ops anc false p L n
  | b, .alt i p rest, L, n => !b && (match n with | 0 => false | m + 1 => (Region.ready .any ops L).contains i && planOKT P ops anc true p (L.setIfInBounds i true) m && planOKT P ops anc false rest L (m + 1))
  | b, .ends, _, _ => !b
section
variable {E : Env} {ops : Array Oper} {K : St → Prop} {anc : List (List Nat)}
theorem AStepT.mono {i : Nat} {C D : St → Prop} {st : St} (hk : AStepT E ops i C st) (h : ∀ s, C s → D s) : AStepT E ops i D st := ⟨hk.1, hk.2.mono h⟩
theorem AAnyT.drop : ∀ {n : Nat} {L : Array Bool} {st : St}, AAnyT E ops K n L st → AAny E ops K n L st
  | 0, _, _, h => h
  | _ + 1, _, _, h => ⟨h.1, fun i hi => (h.2 i hi).2.mono fun _ => AAnyT.drop⟩
theorem tok_light {P : Program} {p : Oper} {st : St} (h : lightOp P p.op = true) : tokOp st (some p) := by
  obtain ⟨dst, op, type, pos, after, guard⟩ := p
  unfold tokOp
  cases op <;> simp only
  case call cl =>
    obtain ⟨callee, args, tys⟩ := cl
    simp only [lightOp] at h
    cases callee with
    | value f => simp at h
    | invoke => simp at h
    | builtin b => cases b <;> simp only at h ⊢ <;> first | trivial | (simp at h; done)
theorem tok_put {st : St} {d : Option Tmp} {y : AV} {o : Oper} (h : ∀ t ∈ Oper.looksAt ops o, d ≠ some t) : tokOp (st.put d y) (some o) = tokOp st (some o) := by
  unfold tokOp
  obtain ⟨dst, op, type, pos, after, guard⟩ := o
  cases op <;> simp only
  case call cl =>
    obtain ⟨callee, args, tys⟩ := cl
    simp only
    split
    · rename_i x xs h1
      rw [ev_put_ne]
      intro t ht
      exact h t (looks_op (by simp [Op.operands, Call.operands]; rw [← Array.mem_toList_iff, h1, ht]; simp))
    · rfl
theorem own_keep {o : Oper} {s : St} {C : St → Prop} (ht : tokOp s (some o)) (hset : setOp o.op = false) (hk : AOp E o s C) : AOp E o s (fun s' => C s' ∧ OwnLe s s') := by
  cases hso : storeOp o.op with
  | false =>
    refine aop_congr (fun _ _ => rfl) rfl rfl rfl rfl hk (fun s' t' hc ha => ?_)
    obtain ⟨z, h1, h2⟩ := ha.at'
    have : t' = s' := by rw [h2, ← h1]
    rw [this]; exact ⟨hc, ha.ext hso⟩
  | true =>
    obtain ⟨dst, op, type, pos, after, guard⟩ := o
    cases op <;> simp only [storeOp, setOp] at hso hset <;> try (simp at hso; done)
    case store => simp at hset
    case call cl =>
      obtain ⟨callee, args, tys⟩ := cl
      simp only at hso
      cases callee with
      | value f => simp at hso
      | invoke => simp at hso
      | builtin b =>
        cases b <;> simp only at hso <;> try (simp at hso; done)
        unfold AOp at hk ⊢
        simp only at hk ⊢
        split at hk
        · rename_i x y t tx hargs htys
          rename_i hcal
          simp only [tokOp, hargs] at ht
          obtain ⟨g1, e, k, n, xs, g2, g3, hk⟩ := hk
          refine ⟨g1, e, k, n, xs, g2, g3, ?_⟩
          split at hk
          · obtain ⟨g4, g5, g6, g7, hk⟩ := hk
            exact ⟨g4, g5, g6, g7, hk, fun id es he => by rw [put_own.1]; exact he⟩
          · obtain ⟨g6, g7, hk⟩ := hk
            exact ⟨g6, g7, hk, fun id es he => by rw [put_own.1]; exact he⟩
          · rename_i hx
            rw [hx] at ht; simp [notMu] at ht
          · exact hk.elim
        · rename_i hh; simp at hh
        · exact (light_mono (fun y hy => ⟨hy, fun id es he => by rw [put_own.1]; exact he⟩) hk)
theorem swapT {i j : Nat} {p o : Oper} {C : St → Prop} {st : St} (hp : ops[i]? = some p) (ho : ops[j]? = some o) (hs : swapTB E.P ops p o = true) (h : AStepT E ops i (AStepT E ops j C) st) : AStepT E ops j (AStepT E ops i C) st := by
  unfold swapTB at hs
  simp only [Bool.and_eq_true] at hs
  obtain ⟨⟨⟨⟨hl, hd⟩, hst⟩, hpo⟩, hop⟩ := hs
  have hpo1 : ∀ t ∈ Oper.looksAt ops o, p.dst ≠ some t := fun t ht e => by
    rw [e] at hpo
    simp only [Bool.and_eq_true, Bool.not_eq_true'] at hpo
    have := hpo.1
    simp [ht] at this
  have hpo2 : ∀ t, p.dst = some t → o.dst ≠ some t := fun t e1 e2 => by
    rw [e1] at hpo
    simp only [Bool.and_eq_true] at hpo
    have := hpo.2
    simp [e2] at this
  have hop1 : ∀ t ∈ Oper.looksAt ops p, o.dst ≠ some t := fun t ht e => by
    rw [e] at hop
    simp [ht] at hop
  have htp : ∀ {C : St → Prop} {s : St}, AStep E ops i C s → AStepT E ops i C s := fun h => ⟨by rw [hp]; exact tok_light hl, h⟩
  have h := h.2
  have h1 : ∃ y, AStepT E ops j C (st.put p.dst y) ∧
      (∀ (C : St → Prop) (t : St), (∀ x ∈ p.op.operands, st.ev x = t.ev x) → AWant ops p t = AWant ops p st → (loadOp p.op = true → OwnLe st t) → C (t.put p.dst y) → AStep E ops i C t) := by
    unfold AStep at h
    rw [hp] at h
    simp only at h
    obtain ⟨q, hq, h2, h3⟩ := h
    cases q with
    | true =>
      have h2 := (light_aop hl).1 (h2 rfl)
      obtain ⟨y, ha, hb⟩ := det_light hd _ h2
      refine ⟨y, ha, fun C t e1 e2 e3 hC => ?_⟩
      unfold AStep
      rw [hp]
      refine ⟨true, by rw [e2]; exact hq, fun _ => (light_aop hl).2 ?_, fun hq => by simp at hq⟩
      exact light_congr e1 e3 (hb (fun z => C (t.put p.dst z)) hC)
    | false =>
      refine ⟨.v undef, h3 rfl, fun C t e1 e2 e3 hC => ?_⟩
      unfold AStep
      rw [hp]
      exact ⟨false, by rw [e2]; exact hq, fun hq => by simp at hq, fun _ => hC⟩
  obtain ⟨y, h2, key⟩ := h1
  have hwp : ∀ {t : St} {own : List (Option (List AV))} {tk : List Nat} {rv : Option (List (Tmp × Nat))} {z : AV}, t = St.put { st with own := own, tk := tk, rsv := rv } o.dst z → AWant ops p t = AWant ops p st := fun {t own tk rv z} e => by
    rw [e, want_put_ne hop1]; rfl
  have hevp : ∀ {t : St} {own : List (Option (List AV))} {tk : List Nat} {rv : Option (List (Tmp × Nat))} {z : AV}, t = St.put { st with own := own, tk := tk, rsv := rv } o.dst z → ∀ x ∈ p.op.operands, st.ev x = t.ev x := fun {t own tk rv z} e x hx => by
    rw [e, ev_put_ne (fun u hu => hop1 u (looks_op (hu ▸ hx)))]
    cases x <;> rfl
  obtain ⟨ht, h2⟩ := h2
  rw [ho] at ht
  have ht' : tokOp st (some o) := by rwa [tok_put hpo1] at ht
  refine ⟨by rw [ho]; exact ht', ?_⟩
  unfold AStep at h2 ⊢
  rw [ho] at h2 ⊢
  simp only at h2 ⊢
  obtain ⟨q, hq, h3, h4⟩ := h2
  rw [want_put_ne hpo1] at hq
  refine ⟨q, hq, fun e => ?_, fun e => ?_⟩
  · have h5 : AOp E o (st.put p.dst y) (fun s' => C s' ∧ (loadOp p.op = true → OwnLe (st.put p.dst y) s')) := by
      cases hset : setOp o.op with
      | false => exact aop_mono (own_keep ht hset (h3 e)) fun s' hs' => ⟨hs'.1, fun _ => hs'.2⟩
      | true => exact aop_mono (h3 e) fun s' hs' => ⟨hs', fun hload => by simp [hset, hload] at hst⟩
    refine aop_congr (t := st) (fun x hx => ev_put_ne (fun u hu => hpo1 u (looks_op (hu ▸ hx)))) put_own.1 put_own.2.1 put_own.2.2.1 put_own.2.2.2 h5 (fun s' t' hc ha => ?_)
    obtain ⟨z, e1, e2⟩ := ha.at'
    rw [put_with] at e1
    have hC : C (t'.put p.dst y) := by
      rw [e2, ← put_comm (fun t h1 h2 => hpo2 t h1 h2), ← e1]
      exact hc.1
    exact htp (key C t' (hevp e2) (hwp e2) (fun hload => by
      have := hc.2 hload
      intro id es he
      rw [ha.own]
      exact this id es (by rw [put_own.1]; exact he)) hC)
  · have h4 := h4 e
    rw [put_comm (fun t h1 h2 => hpo2 t h1 h2)] at h4
    have e2 : st.put o.dst (.v undef) = St.put { st with own := st.own, tk := st.tk, rsv := st.rsv } o.dst (.v undef) := rfl
    exact htp (key C (st.put o.dst (.v undef)) (hevp e2) (hwp e2) (fun _ id es he => by rw [put_own.1]; exact he) h4)
theorem freeT_swap (hv : listedOK ops anc = true) {L : Array Bool} (hw : WfL anc L) {p o : Nat} (hf : freeT E.P ops anc L p = true) (hp : p ∈ Region.ready .any ops L) (ho : o ∈ Region.ready .any ops L) (hne : o ≠ p) :
    ∃ x y, ops[p]? = some x ∧ ops[o]? = some y ∧ swapTB E.P ops x y = true := by
  obtain ⟨hpl, x, hx, _⟩ := mem_ready.1 hp
  obtain ⟨hol, y, hy, _⟩ := mem_ready.1 ho
  refine ⟨x, y, hx, hy, ?_⟩
  unfold freeT at hf
  simp only [hx, List.all_eq_true, List.mem_range, Bool.or_eq_true, beq_iff_eq] at hf
  have hlt : o < ops.size := (Array.getElem?_eq_some_iff.1 hy).1
  have := hf o hlt
  rcases this with ((h | h) | h) | h
  · exact absurd h hne
  · rw [hol] at h; simp at h
  · have := anc_listed hv hw ho p (by simpa using h)
    have h2 : L.getD p true = true := by
      simp only [Array.getD_eq_getD_getElem?] at this ⊢
      cases hh : L[p]? with
      | none => simp
      | some b => simpa [hh] using this
    rw [hpl] at h2; simp at h2
  · simpa [hy] using h
theorem freeT_mono {L : Array Bool} {p o : Nat} (hf : freeT E.P ops anc L p = true) : freeT E.P ops anc (L.setIfInBounds o true) p = true := by
  unfold freeT at *
  split at hf
  · simp at hf
  · rename_i x hx
    rw [List.all_eq_true] at *
    intro q hq
    have := hf q hq
    simp only [Bool.or_eq_true] at this ⊢
    rcases this with ((h | h) | h) | h
    · exact .inl (.inl (.inl h))
    · refine .inl (.inl (.inr ?_))
      by_cases e : o = q
      · subst e
        simp only [Array.getD_eq_getD_getElem?] at h ⊢
        rw [Array.getElem?_setIfInBounds, if_pos rfl]
        split <;> simp
      · rwa [getD_set_ne true e]
    · exact .inl (.inr h)
    · exact .inr h
theorem astepT_false {i : Nat} {p o : Oper} {st : St} (hp : ops[i]? = some p) (hs : swapTB E.P ops p o = true) (h : AStepT E ops i (fun _ => False) st) : False := by
  have h := h.2
  rw [astep_some hp] at h
  obtain ⟨q, h1, h2, h3⟩ := h
  cases q with
  | false => exact h3 rfl
  | true =>
    have h2 := h2 rfl
    unfold swapTB at hs
    simp only [Bool.and_eq_true] at hs
    obtain ⟨y, hy, _⟩ := det_light hs.1.1.1.2 _ ((light_aop hs.1.1.1.1).1 h2)
    exact hy
theorem takeT_ok (hv : listedOK ops anc = true) {p : Nat} : ∀ (n : Nat) (L : Array Bool) (st : St), WfL anc L → freeT E.P ops anc L p = true → p ∈ Region.ready .any ops L →
    AStepT E ops p (AAnyT E ops K n (L.setIfInBounds p true)) st → AAnyT E ops K (n + 1) L st
  | n, L, st, hw, hf, hp, h => by
    refine ⟨fun e => (by rw [e] at hp; simp at hp), fun o ho => ?_⟩
    by_cases hne : o = p
    · subst hne; exact h
    · obtain ⟨x, y, hx, hy, hs⟩ := freeT_swap (E := E) hv hw hf hp ho hne
      have ho' := ready_add ho hne (o := p)
      cases n with
      | zero =>
        exfalso
        have : ∀ st', AAnyT E ops K 0 (L.setIfInBounds p true) st' → False := fun st' h' => by
          have := h'.1
          rw [this] at ho'; simp at ho'
        exact astepT_false hx hs (h.mono (D := fun _ => False) this)
      | succ m =>
        have h2 : AStepT E ops p (AStepT E ops o (AAnyT E ops K m ((L.setIfInBounds p true).setIfInBounds o true))) st := h.mono fun s hs' => hs'.2 o ho'
        have h3 := swapT hx hy hs h2
        refine h3.mono fun s hs' => ?_
        rw [set_comm] at hs'
        exact takeT_ok hv m _ s (hw.add hv ho) (freeT_mono hf) (ready_add hp (fun e => hne e.symm)) hs'
theorem planT_ok (hv : listedOK ops anc = true) : ∀ (x : Plan) (b : Bool) (L : Array Bool) (n : Nat) (st : St), planOKT E.P ops anc b x L n = true → WfL anc L → APlanT E ops K x st →
    (b = true → AAnyT E ops K n L st) ∧ (b = false → ∀ i ∈ x.alts, ∃ m, n = m + 1 ∧ AStepT E ops i (AAnyT E ops K m (L.setIfInBounds i true)) st)
  | .done, b, L, n, st, h, hw, ha => by
    simp only [planOKT, Bool.and_eq_true, List.isEmpty_iff] at h
    refine ⟨fun _ => ?_, fun hb => by rw [hb] at h; simp at h⟩
    cases n with
    | zero => exact ⟨h.2, ha⟩
    | succ n => exact ⟨fun _ => ha, fun i hi => by rw [h.2] at hi; simp at hi⟩
  | .take i p, b, L, n, st, h, hw, ha => by
    simp only [planOKT, Bool.and_eq_true] at h
    refine ⟨fun _ => ?_, fun hb => by rw [hb] at h; simp at h⟩
    cases n with
    | zero => simp at h
    | succ n =>
      simp only [Bool.and_eq_true] at h
      obtain ⟨_, ⟨h1, h2⟩, h3⟩ := h
      have h1 : i ∈ Region.ready .any ops L := by simpa using h1
      refine takeT_ok hv n L st hw h2 h1 ?_
      exact AStepT.mono ha fun s hs => (planT_ok hv p true _ n s h3 (hw.add hv h1) hs).1 rfl
  | .fork p, b, L, n, st, h, hw, ha => by
    simp only [planOKT, Bool.and_eq_true, beq_iff_eq, Bool.not_eq_true', List.isEmpty_eq_false_iff] at h
    obtain ⟨⟨⟨hb, h1⟩, h2⟩, h3⟩ := h
    refine ⟨fun _ => ?_, fun hb' => by rw [hb'] at hb; simp at hb⟩
    have := (planT_ok hv p false L n st h3 hw ha).2 rfl
    obtain ⟨i0, hi0⟩ := List.exists_mem_of_ne_nil _ h2
    obtain ⟨n', rfl, _⟩ := this i0 hi0
    refine ⟨fun e => by rw [h1, e] at hi0; simp at hi0, fun i hi => ?_⟩
    obtain ⟨m, e, hm⟩ := this i (by rw [h1]; exact hi)
    have : m = n' := by omega
    subst this
    exact hm
  | .alt i p rest, b, L, n, st, h, hw, ha => by
    simp only [planOKT, Bool.and_eq_true, Bool.not_eq_true'] at h
    refine ⟨fun hb => by rw [hb] at h; simp at h, fun _ => ?_⟩
    cases n with
    | zero => simp at h
    | succ n =>
      simp only [Bool.and_eq_true] at h
      obtain ⟨_, ⟨h1, h2⟩, h3⟩ := h
      have h1 : i ∈ Region.ready .any ops L := by simpa using h1
      intro j hj
      simp only [Plan.alts, List.mem_cons] at hj
      rcases hj with rfl | hj
      · exact ⟨n, rfl, AStepT.mono ha.1 fun s hs => (planT_ok hv p true _ n s h2 (hw.add hv h1) hs).1 rfl⟩
      · exact (planT_ok hv rest false L (n + 1) st h3 hw ha.2).2 rfl j hj
  | .ends, b, L, n, st, h, hw, ha => by
    simp only [planOKT, Bool.not_eq_true'] at h
    exact ⟨fun hb => by rw [hb] at h; simp at h, fun _ i hi => by simp [Plan.alts] at hi⟩
/-- A region that draws its order, by a plan; no row of one's own is appended to. -/
theorem AWP.regionAnyT {id : Nat} {l : List Oper} {Q : Exit → St → Prop} {st : St} (x : Plan) (anc : List (List Nat)) (ds : List Tmp) (hm : E.P.follows .mixedOrders = true)
    (hx : (listedOK l.toArray anc && planOKT E.P l.toArray anc true x (Array.replicate l.toArray.size false) l.toArray.size) = true) (h : APlanT E l.toArray (Done (Q .normal)) x (st.keep ds)) : AWP E (.region id l.toArray true) Q st := fun w0 im0 cx a w h0 hG r => by
  simp only [Bool.and_eq_true] at hx
  have r' : Rel w0 im0 cx st a w.drew := ⟨r.defers, r.size, r.tmps, r.below.drew, r.imle, r.imold, r.imok, r.ownlen, fun i g k es h1 h2 => let h3 := r.own i g k es h1 h2; ⟨h3.new, h3.im, h3.blk⟩, r.tklen, r.tail, fun t T b h1 h2 => let h3 := r.tok t T b h1 h2; ⟨h3.new, h3.room, h3.im, h3.blk⟩, r.apart, r.glob, r.up, r.hole⟩
  have r2 := r'.reserve ds.length (l := mkRsv ds st.own.length) (fun d i hmem => (mem_mkRsv hmem).2)
  refine wp_region_any hm (aany_sound h0 hG (K := Done (Q .normal)) (fun a' w' hh => ?_) _ _ (st.keep ds) _ a _ r2 ?_)
  · obtain ⟨c', st', r3, hk⟩ := hh
    exact ⟨c', { st' with rsv := none }, ⟨r3.defers, r3.size, r3.tmps, r3.below, r3.imle, r3.imold, r3.imok, r3.ownlen, r3.own, r3.tklen, r3.tail, r3.tok, r3.apart, r3.glob, r3.up, fun l d i e => by cases e⟩, hk⟩
  · refine ((planT_ok hx.1 x true _ _ _ hx.2 ?_ h).1 rfl).drop
    intro m hm
    exfalso
    simp only [Array.getD_eq_getD_getElem?, Array.getElem?_replicate] at hm
    split at hm <;> simp at hm
@[go_sem] theorem apT_done {st : St} : APlanT E ops K .done st = K st := rfl
@[go_sem] theorem apT_take {st : St} {i : Nat} {p : Plan} : APlanT E ops K (.take i p) st = (tokOp st ops[i]? ∧ AList E ops (ops[i]?).toList st (APlanT E ops K p)) := by
  show (_ ∧ AStep E ops i (APlanT E ops K p) st) = _
  rw [astep_list]
@[go_sem] theorem apT_fork {st : St} {p : Plan} : APlanT E ops K (.fork p) st = APlanT E ops K p st := rfl
@[go_sem] theorem apT_alt {st : St} {i : Nat} {p r : Plan} : APlanT E ops K (.alt i p r) st = ((tokOp st ops[i]? ∧ AList E ops (ops[i]?).toList st (APlanT E ops K p)) ∧ APlanT E ops K r st) := by
  show ((_ ∧ AStep E ops i (APlanT E ops K p) st) ∧ _) = _
  rw [astep_list]
@[go_sem] theorem apT_ends {st : St} : APlanT E ops K .ends st = True := rfl
end
attribute [go_sem] tokOp notMu
end Go.Abs

/- Plans where some literals without elements, and what is appended to them, are rows of one's own. -/
set_option linter.unusedVariables false
set_option linter.unusedSimpArgs false
namespace Go.Abs
open Go Go.RowKit
/-- A literal without elements, an append to it, as a row of one's own. -/
def MuStep (E : Env) (o : Oper) (C : St → Prop) (st : St) : Prop := o.guard = none ∧
  ((∃ t e k n, o.op = .buildSlice t 0 #[] ∧ appInfo E.P t = some (e, k, n) ∧ C (St.put { st with own := st.own ++ [some []] } o.dst (.mu st.own.length k 0 0 0))) ∨
   ∃ t tx x y e k n id xs, o.op = .call ⟨.builtin .append, #[x, y], #[t, tx]⟩ ∧ srcTy E.P tx = true ∧ appInfo E.P t = some (e, k, n) ∧ st.ev x = .mu id k 0 0 0 ∧ ASrc (st.ev y) k = some xs ∧ st.own[id]? = some (some []) ∧ xs.length ≤ 4611686018427387904 ∧ xs.length * n ≤ 140737488355328 ∧
     ∀ m, C (St.put { st with own := st.own.set id none ++ [some (xs ++ spare k m)] } o.dst (.mu st.own.length k 0 xs.length (xs.length + m))))
def AStepM (E : Env) (ops : Array Oper) (ms : List Nat) (i : Nat) (C : St → Prop) (st : St) : Prop := if ms.contains i = true then ∃ o, ops[i]? = some o ∧ MuStep E o C st else tokOp st ops[i]? ∧ AStep E ops i C st
def APlanM (E : Env) (ops : Array Oper) (ms : List Nat) (K : St → Prop) : Plan → St → Prop
  | .done, st => K st
  | .take i p, st => AStepM E ops ms i (APlanM E ops ms K p) st
  | .fork p, st => APlanM E ops ms K p st
  | .alt i p rest, st => AStepM E ops ms i (APlanM E ops ms K p) st ∧ APlanM E ops ms K rest st
  | .ends, _ => True
section
variable {E : Env} {ops : Array Oper} {ms : List Nat} {K : St → Prop} {anc : List (List Nat)}
theorem MuStep.mono {o : Oper} {C D : St → Prop} {st : St} (h : MuStep E o C st) (hk : ∀ s, C s → D s) : MuStep E o D st := by
  obtain ⟨hg, ⟨t, e, k, n, ho, ha, hc⟩ | ⟨t, tx, x, y, e, k, n, id, xs, ho, h1, h2, h3, h4, h5, h6, h7, hc⟩⟩ := h
  · exact ⟨hg, .inl ⟨t, e, k, n, ho, ha, hk _ hc⟩⟩
  · exact ⟨hg, .inr ⟨t, tx, x, y, e, k, n, id, xs, ho, h1, h2, h3, h4, h5, h6, h7, fun m => hk _ (hc m)⟩⟩
theorem AStepM.mono {i : Nat} {C D : St → Prop} {st : St} (hk : AStepM E ops ms i C st) (h : ∀ s, C s → D s) : AStepM E ops ms i D st := by
  unfold AStepM at *
  split
  · rename_i hi; rw [if_pos hi] at hk; obtain ⟨o, h1, h2⟩ := hk; exact ⟨o, h1, h2.mono h⟩
  · rename_i hi; rw [if_neg hi] at hk; exact ⟨hk.1, hk.2.mono h⟩
@[go_sem] theorem apM_done {st : St} : APlanM E ops ms K .done st = K st := rfl
def AMuO (E : Env) (o : Option Oper) (C : St → Prop) (st : St) : Prop := match o with
  | some o => MuStep E o C st
  | none => False
theorem astepM_eq {i : Nat} {C : St → Prop} {st : St} : AStepM E ops ms i C st = if ms.contains i = true then AMuO E (ops[i]?) C st else (tokOp st ops[i]? ∧ AList E ops (ops[i]?).toList st C) := by
  unfold AStepM
  split
  · cases ops[i]? with
    | none => simp [AMuO]
    | some o => simp [AMuO]
  · rw [astep_list]
@[go_sem] theorem apM_take {st : St} {i : Nat} {p : Plan} : APlanM E ops ms K (.take i p) st = if ms.contains i = true then AMuO E (ops[i]?) (APlanM E ops ms K p) st else (tokOp st ops[i]? ∧ AList E ops (ops[i]?).toList st (APlanM E ops ms K p)) := astepM_eq
@[go_sem] theorem apM_fork {st : St} {p : Plan} : APlanM E ops ms K (.fork p) st = APlanM E ops ms K p st := rfl
@[go_sem] theorem apM_alt {st : St} {i : Nat} {p r : Plan} : APlanM E ops ms K (.alt i p r) st = ((if ms.contains i = true then AMuO E (ops[i]?) (APlanM E ops ms K p) st else (tokOp st ops[i]? ∧ AList E ops (ops[i]?).toList st (APlanM E ops ms K p))) ∧ APlanM E ops ms K r st) := by
  show (AStepM E ops ms i (APlanM E ops ms K p) st ∧ _) = _
  rw [astepM_eq]
@[go_sem] theorem apM_ends {st : St} : APlanM E ops ms K .ends st = True := rfl
def AMuTo (x : AV) (k n : Nat) (src : Option (List AV)) (st : St) (C : St → AV → Prop) : Prop := match x with
  | .mu id q off len cap => q = k ∧ off = 0 ∧ len = 0 ∧ cap = 0 ∧ AGet src fun xs => xs.length ≤ 4611686018427387904 ∧ xs.length * n ≤ 140737488355328 ∧ AGet2 st.own[id]? fun l => l = [] ∧
      ∀ m, C { st with own := st.own.set id none ++ [some (xs ++ spare k m)] } (.mu st.own.length k 0 xs.length (xs.length + m))
  | _ => False
@[go_sem] theorem mu_slice {d : Option Tmp} {t ty : TypeId} {pos : String} {after : Array Edge} {C : St → Prop} {st : St} : AMuO E (some ⟨d, .buildSlice t 0 #[], ty, pos, after, none⟩) C st = AGet (appInfo E.P t) fun q => C (St.put { st with own := st.own ++ [some []] } d (.mu st.own.length q.2.1 0 0 0)) := by
  refine propext ⟨?_, ?_⟩
  · rintro ⟨_, ⟨t', e, k, n, ho, ha, hc⟩ | ⟨_, _, _, _, _, _, _, _, _, ho, _⟩⟩
    · cases ho; exact ⟨_, ha, hc⟩
    · cases ho
  · rintro ⟨⟨e, k, n⟩, ha, hc⟩
    exact ⟨rfl, .inl ⟨t, e, k, n, rfl, ha, hc⟩⟩
@[go_sem] theorem mu_app {d : Option Tmp} {t tx ty : TypeId} {x y : Operand} {pos : String} {after : Array Edge} {C : St → Prop} {st : St} : AMuO E (some ⟨d, .call ⟨.builtin .append, #[x, y], #[t, tx]⟩, ty, pos, after, none⟩) C st =
    (srcTy E.P tx = true ∧ AGet (appInfo E.P t) fun q => AMuTo (st.ev x) q.2.1 q.2.2 (ASrc (st.ev y) q.2.1) st fun st' z => C (st'.put d z)) := by
  refine propext ⟨?_, ?_⟩
  · rintro ⟨_, ⟨_, _, _, _, ho, _⟩ | ⟨t', tx', x', y', e, k, n, id, xs, ho, h1, h2, h3, h4, h5, h6, h7, hc⟩⟩
    · cases ho
    · cases ho
      refine ⟨h1, _, h2, ?_⟩
      rw [h3]
      exact ⟨rfl, rfl, rfl, rfl, _, h4, h6, h7, _, h5, rfl, hc⟩
  · rintro ⟨h1, ⟨e, k, n⟩, h2, h3⟩
    unfold AMuTo at h3
    split at h3
    · rename_i id q off len cap hx
      obtain ⟨rfl, rfl, rfl, rfl, xs, h4, h6, h7, l, h5, rfl, hc⟩ := h3
      exact ⟨rfl, .inr ⟨t, tx, x, y, e, _, n, id, xs, rfl, h1, h2, hx, h4, h5, h6, h7, hc⟩⟩
    · exact h3.elim
end
attribute [go_sem] AMuTo
end Go.Abs

/- A state told behind a piece of code: the rest is walked once, whatever the piece forks into. -/
set_option linter.unusedVariables false
set_option linter.unusedSimpArgs false
namespace Go.Abs
open Go Go.RowKit
end Go.Abs

/- A call of a function that the machine does itself. -/
set_option linter.unusedVariables false
set_option linter.unusedSimpArgs false
namespace Go.Abs
open Go Go.RowKit
theorem AWPL.native {E : Env} {Q : Exit → St → Prop} {st : St} {ops : Array Oper} {l : List Oper} {dst : Option Tmp} {ty : TypeId} {pos : String} {after : Array Edge} {g : FuncId} {args : Array Operand} {tys : Array TypeId} (vs : List Value) (u : Value) (y : AV)
    (hev : args.toList.map st.ev = vs.map AV.v) (hrun : ∀ w, (callFunc g vs.toArray).run E.P w = .ok (.value u) w) (hy : ∀ c, VR c y u)
    (h : AWPL E ops l Q (st.put dst y)) : AWPL E ops (⟨dst, .call ⟨.value (.func g), args, tys⟩, ty, pos, after, none⟩ :: l) Q st := by
  intro w0 im0 cx a w h0 hG r
  refine wpList_step (fun K' hK' => ?_)
  have hw : Region.wanted ⟨dst, .call ⟨.value (.func g), args, tys⟩, ty, pos, after, none⟩ (yielded ops a.tmps) = true := rfl
  rw [if_pos hw]
  have hargs : Array.map a.eval args = vs.toArray := by
    apply Array.ext'
    rw [Array.toList_map]
    have hl : args.toList.length = vs.length := by have := congrArg List.length hev; simpa using this
    apply List.ext_getElem?
    intro i
    rw [List.getElem?_map]
    cases hi : args.toList[i]? with
    | none =>
      have : args.toList.length ≤ i := List.getElem?_eq_none_iff.1 hi
      rw [Option.map_none]; symm; exact List.getElem?_eq_none_iff.2 (by show vs.length ≤ i; omega)
    | some x =>
      have h1 := congrArg (fun l => l[i]?) hev
      simp only [List.getElem?_map, hi, Option.map_some] at h1
      cases hv : vs[i]? with
      | none => rw [hv] at h1; simp at h1
      | some v =>
        rw [hv] at h1
        simp only [Option.map_some, Option.some.injEq] at h1
        have h2 := r.ev x
        rw [h1] at h2
        rw [Option.map_some, h2.inv_v, ← hv]
  refine wp_value (w' := w) (v := u) ?_ (hK' _ _ (h w0 im0 _ _ _ h0 hG (r.put dst (hy _))))
  have he' : a.eval (.func g) = .func (.func g) #[] #[] := rfl
  simp only [execOp, resolve, he', Deferred.ofValue, Sem.run_bind, Sem.run_pure, Result.andThen_ok, invoke, Array.empty_append, Array.append_empty, hargs, hrun]
end Go.Abs

/- Clearing the end of a row of one's own. -/
set_option linter.unusedVariables false
set_option linter.unusedSimpArgs false
namespace Go.Abs
open Go Go.RowKit
theorem zeroCells_mem {z : Array Value} {n : Nat} (h : z.toList.all (·.oneCell') = true) : ∀ u ∈ (Builtin.zeroCells z n).toList, u.oneCell' = true := by
  intro u hu
  obtain ⟨i, hi, rfl⟩ := List.mem_iff_getElem.1 hu
  have hi2 : i < n * z.size := by simpa [Builtin.zeroCells] using hi
  have hz : 0 < z.size := by
    rcases Nat.eq_zero_or_pos z.size with h0 | h0
    · rw [h0] at hi2; simp at hi2
    · exact h0
  have hlt := Nat.mod_lt i hz
  simp only [Builtin.zeroCells, Array.getElem_toList, Array.getElem_map, Array.getElem_range]
  rw [getElem!_pos z _ hlt]
  exact List.all_eq_true.1 h _ (by simp)
theorem AWPL.clearMu {E : Env} {Q : Exit → St → Prop} {st : St} {ops : Array Oper} {l : List Oper} {t ty : TypeId} {x : Operand} {pos : String} {after : Array Edge} {e : TypeId} {k n id len cap : Nat} {A B : List AV}
    (hai : appInfo E.P t = some (e, k, n)) (hone : (((E.P.info? e).bind (·.zero)).map fun zv => zv.cells.toList.all (·.oneCell')) = some true)
    (hs : st.ev x = .mu id k A.length (len + 1) cap) (ho : st.own[id]? = some (some (A ++ B))) (hlen : len + 1 ≤ B.length)
    (h : AWPL E ops l Q { st with own := st.own.set id (some (A ++ spare k B.length)) }) : AWPL E ops (⟨none, .call ⟨.builtin .clear, #[x], #[t]⟩, ty, pos, after, none⟩ :: l) Q st := by
  intro w0 im0 cx a w h0 hG r
  refine wpList_step (fun K' hK' => ?_)
  have hw : Region.wanted ⟨none, .call ⟨.builtin .clear, #[x], #[t]⟩, ty, pos, after, none⟩ (yielded ops a.tmps) = true := rfl
  rw [if_pos hw]
  obtain ⟨hu, hss, hk0, i, zv, hi, hz, hsize, hbytes, hzs⟩ := appInfo_ok hai
  have hv := r.ev x
  rw [hs] at hv
  rcases hv.inv_mu with ⟨g, hb, hcap, hve⟩ | ⟨hz1, _, _⟩
  rotate_left
  · omega
  have hown := r.own id g k _ hb ho
  obtain ⟨cs, ty', lo, hi', hblk, hfr, hsz, hlv, hcell⟩ := hown.blk
  have hoc : OCells cx k (A ++ B) cs.toList := ⟨hlv, fun i e j x he hx => by obtain ⟨u, h1, h2⟩ := hcell i e j x he hx; exact ⟨u, by simpa using h1, h2⟩⟩
  have hoc1 := hoc.take
  rw [List.length_append] at hsz
  have hesz : A.length * k ≤ cs.size := by rw [Nat.add_mul] at hsz; omega
  have hol : (cs.toList.take (A.length * k)).length = A.length * k := by have hq : cs.toList.length = cs.size := Array.length_toList; rw [List.length_take, hq]; omega
  have hfro : ∀ o, o < cs.toList.length → ¬ (lo ≤ o ∧ o < hi') := fun o h1 h2 => by
    have h1 : o < cs.size := by simpa using h1
    rcases hfr with h | h <;> omega
  have hcs : cs = cs.toList.toArray := by simp
  have hz1 : zv.cells.toList.all (·.oneCell') = true := by
    rw [hi] at hone; simp only [Option.bind_some, hz, Option.map_some, Option.some.injEq] at hone; exact hone
  have hnl : (Builtin.zeroCells zv.cells (len + 1)).toList.length = (len + 1) * k := by rw [Array.length_toList, zeroCells_size, hzs]
  have hmul : (len + 1) * k ≤ B.length * k := Nat.mul_le_mul_right _ hlen
  have hfit2 : A.length * k + 0 + (Builtin.zeroCells zv.cells (len + 1)).toList.length ≤ cs.toList.length := by
    have hq : cs.toList.length = cs.size := Array.length_toList
    rw [hnl, hq, Nat.add_zero]; rw [Nat.add_mul] at hsz; omega
  have hst := run_storePut (P := E.P) g (A.length * k) ty' lo hi' (Builtin.zeroCells zv.cells (len + 1)).toList 0 cs.toList w (by rw [← hcs]; exact hblk) hfro hfit2 (zeroCells_mem hz1)
  rw [Nat.add_zero] at hst
  have hrun : (Builtin.clear_ #[t] ty #[a.eval x]).run E.P w = .ok (.tuple #[]) (w.setRow g (putV cs.toList (A.length * k) (Builtin.zeroCells zv.cells (len + 1)).toList).toArray) := by
    rw [hve]
    have hzr : (zeroValue e).run E.P w = .ok zv w := by simp [zeroValue, typeInfo, hi, hz]
    unfold Builtin.clear_
    simp only [List.getElem?_toArray, List.getElem?_cons_zero, Sem.run_bind, underlying_run hu, Result.andThen_ok, hzr]
    (try simp only [add_none, Nat.zero_add] at hst)
    simp [hst]
  have hcs'len : (putV cs.toList (A.length * k) (Builtin.zeroCells zv.cells (len + 1)).toList).length = cs.size := by rw [putV_length]; simp
  have hOC : OCells cx k (A ++ spare k B.length) (putV cs.toList (A.length * k) (Builtin.zeroCells zv.cells (len + 1)).toList) := by
    have e1 : putV cs.toList (A.length * k) (Builtin.zeroCells zv.cells (len + 1)).toList = cs.toList.take (A.length * k) ++ (putV cs.toList (A.length * k) (Builtin.zeroCells zv.cells (len + 1)).toList).drop (A.length * k) := by
      apply List.ext_getElem?
      intro p
      by_cases hp : p < A.length * k
      · rw [List.getElem?_append_left (by rw [hol]; exact hp), putV_get _ _ _ _ (by simpa using hfit2), if_neg (by omega), List.getElem?_take, if_pos hp]
      · rw [List.getElem?_append_right (by rw [hol]; omega), hol, List.getElem?_drop]; congr 1; omega
    rw [e1]
    exact hoc1.append hol (OCells.spare (by rw [List.length_drop, hcs'len]; rw [Nat.add_mul] at hsz; omega))
  have hset := r.setOwn (w' := w.setRow g (putV cs.toList (A.length * k) (Builtin.zeroCells zv.cells (len + 1)).toList).toArray) (es' := A ++ spare k B.length) hb ho (fun b hne => setRow_other w g b _ hne) (below_setRow r.below hown.new _)
    ⟨(putV cs.toList (A.length * k) (Builtin.zeroCells zv.cells (len + 1)).toList).toArray, ty', lo, hi', setRow_heap w g cs _ ty' (lo, hi') hblk, by
      rcases hfr with h | h
      · exact .inl h
      · exact .inr (by simpa [putV_length] using h), by
      simp only [List.size_toArray, hcs'len, List.length_append, spare_len]; exact hsz, hOC.1, fun i e j x he hx => by
      obtain ⟨u, h1, h2⟩ := hOC.2 i e j x he hx
      exact ⟨u, by simpa using h1, h2⟩⟩
  refine wp_value (w' := _) (v := .tuple #[]) ?_ (hK' _ _ (h w0 im0 _ _ _ h0 hG (hset.put none (.base (.v _)))))
  simp only [execOp, resolve, Sem.run_bind, Sem.run_pure, Result.andThen_ok, invoke, builtin, List.map_toArray, List.map_cons, List.map_nil, hrun]
/-- The end of a row of one's own. -/
theorem AWPL.sliceMu {E : Env} {Q : Exit → St → Prop} {st : St} {ops : Array Oper} {rest : List Oper} {dst : Option Tmp} {t ty : TypeId} {x lo : Operand} {pos : String} {after : Array Edge} {e : TypeId} {k id off len cap l : Nat}
    (hu : E.P.underlying t = some (.slice e)) (hsz : tsz E.P e = some k) (hs : st.ev x = .mu id k off len cap) (hl : st.ev lo = i64 (l : Int)) (h1 : l ≤ len) (h2 : l < cap) (h0 : 0 < len)
    (h : AWPL E ops rest Q (st.put dst (.mu id k (off + l) (len - l) (cap - l)))) : AWPL E ops (⟨dst, .slice t x (some lo) none none, ty, pos, after, none⟩ :: rest) Q st := by
  intro w0 im0 cx a w h0' hG r
  refine wpList_step (fun K' hK' => ?_)
  have hw : Region.wanted ⟨dst, .slice t x (some lo) none none, ty, pos, after, none⟩ (yielded ops a.tmps) = true := rfl
  rw [if_pos hw]
  have hv := r.ev x
  rw [hs] at hv
  have hlv := r.ev lo
  rw [hl] at hlv
  have hlo := hlv.inv_v
  rcases hv.inv_mu with ⟨g, hb, hcap, hve⟩ | ⟨hz, _, _⟩
  rotate_left
  · omega
  have hbr := bounds_run (P := E.P) (w := w) (c := cx) (isS := true) (len := len) (cap := cap) (lo := some (i64 (l : Int))) (hi := none) (vl := some (a.eval lo)) (vh := none) (l := (l : Int)) (h := (len : Int))
    (fun y hy => by cases hy; exact ⟨_, rfl, hlv⟩) (fun hy => by cases hy) (fun y hy => by cases hy) (fun _ => rfl) rfl rfl (by omega) (by omega) (by omega) hcap
  have hrun : (Instr.sliceAt t (a.eval x) (some (a.eval lo)) none none).run E.P w = .ok (.slice (some ⟨g, (off + l) * k, none⟩) (len - l) (cap - l)) w := by
    rw [hve]
    simp only [Instr.sliceAt, Sem.run_bind, underlying_run hu, Result.andThen_ok, Instr.slice, hbr, tsz_run hsz, Sem.run_pure]
    have hne : ¬ cap = l := by omega
    simp [hne, Addr.add, Nat.add_mul]
  refine wp_value (w' := w) (v := .slice (some ⟨g, (off + l) * k, none⟩) (len - l) (cap - l)) ?_ (hK' _ _ (h w0 im0 _ _ _ h0' hG (r.put dst (.mu hb (by omega)))))
  simp only [execOp, Option.map_some, Option.map_none, Sem.run_bind, hrun, Result.andThen_ok, Sem.run_pure]
end Go.Abs
end
section
/- Contracts of the library's functions at this program: laid by program off the shelf, in plain words. -/
namespace Go.Proofs
open Go.Shelf
def Tryz.lays264_ren : Go.Shelf.Ren := ⟨fun | 264 => 161 | n => n, fun | 53 => 201 | 46 => 205 | n => n, fun | n => n⟩
theorem Tryz.lays264 : Go.Proofs.Lays.n264 Tryz.prog Tryz.lays264_ren := {
  mixed := by kernel_rfl
  f264 := Tryz.func161.trans (congrArg some (by kernel_rfl))
  t46 := Tryz.underlying205
  a46 := Tryz.isAgg205
  z46 := Tryz.sizeOf205
  v46 := Tryz.zeroValue205
  t53 := Tryz.underlying201
  a53 := Tryz.isAgg201
  z53 := Tryz.sizeOf201
  v53 := Tryz.zeroValue201 }
open Go.RowKit Go.Lib in
theorem Tryz.bits_Mul64 (x y : Nat) (hx : x < 18446744073709551616) (hy : y < 18446744073709551616) (w : World) :
    Calls Tryz.prog 161 #[.int .u64 x, .int .u64 y] w fun e w' => e = .returned (.tuple #[.int .u64 ((x * y / 18446744073709551616 : Nat) : Int), .int .u64 ((x * y % 18446744073709551616 : Nat) : Int)]) ∧ w' = w := Any.bits_Mul64 Tryz.lays264 x y hx hy w
def Tryz.sorted98_ren : Go.Shelf.Ren := ⟨fun | 6 => 98 | 8 => 164 | 9 => 103 | 11 => 196 | 13 => 169 | 12 => 168 | 23 => 205 | 24 => 206 | 14 => 197 | 15 => 198 | 16 => 199 | 17 => 200 | 18 => 201 | 19 => 202 | 20 => 166 | 21 => 203 | 22 => 204 | 25 => 228 | 26 => 229 | 27 => 230 | 28 => 231 | 29 => 232 | 30 => 183 | 31 => 254 | n => n, fun | 26 => 9 | 28 => 145 | 24 => 24 | 0 => 0 | 3 => 3 | 37 => 205 | 48 => 53 | 50 => 201 | 4 => 4 | 40 => 226 | 39 => 225 | 45 => 148 | 5 => 5 | 9 => 9 | 51 => 243 | 55 => 247 | 57 => 263 | 58 => 264 | 33 => 195 | n => n, fun | n => n⟩
theorem Tryz.sorted98 : Go.Proofs.SlLaysZ.n6 Tryz.prog Tryz.sorted98_ren := {
  mixed := by kernel_rfl
  f6 := ⟨Tryz.f98.name, by decide, Tryz.func98.trans (congrArg some (by kernel_rfl))⟩
  f8 := ⟨Tryz.f164.name, by decide, Tryz.func164.trans (congrArg some (by kernel_rfl))⟩
  f11 := ⟨Tryz.f196.name, by decide, Tryz.func196.trans (congrArg some (by kernel_rfl))⟩
  t0 := Tryz.underlying0
  a0 := Tryz.isAgg0
  z0 := Tryz.sizeOf0
  v0 := Tryz.zeroValue0
  t24 := Tryz.underlying24
  a24 := Tryz.isAgg24
  z24 := Tryz.sizeOf24
  v24 := Tryz.zeroValue24
  t26 := Tryz.underlying9
  a26 := Tryz.isAgg9
  z26 := Tryz.sizeOf9
  v26 := Tryz.zeroValue9
  t28 := Tryz.underlying145
  a28 := Tryz.isAgg145
  z28 := Tryz.sizeOf145
  v28 := Tryz.zeroValue145
  i26 := by kernel_rfl }
def Tryz.sort50_ren : Go.Shelf.Ren := ⟨fun | 6 => 103 | 8 => 169 | 9 => 168 | 19 => 205 | 20 => 206 | 21 => 197 | 22 => 198 | 23 => 199 | 24 => 200 | 25 => 201 | 26 => 202 | 27 => 166 | 28 => 203 | 29 => 204 | 36 => 228 | 31 => 229 | 32 => 230 | 37 => 231 | 38 => 232 | 39 => 183 | 41 => 254 | n => n, fun | 27 => 24 | 29 => 9 | 3 => 3 | 32 => 205 | 26 => 24 | 0 => 0 | 44 => 53 | 46 => 201 | 4 => 4 | 36 => 226 | 35 => 225 | 41 => 148 | 5 => 5 | 9 => 9 | 53 => 243 | 57 => 247 | 63 => 263 | 64 => 264 | n => n, fun | n => n⟩
theorem Tryz.sort50 : Go.Proofs.SlLaysM.n6 Tryz.prog Tryz.sort50_ren := {
  mixed := by kernel_rfl
  f6 := ⟨Tryz.f103.name, by decide, Tryz.func103.trans (congrArg some (by kernel_rfl))⟩
  f8 := Tryz.func169.trans (congrArg some (by kernel_rfl))
  f9 := ⟨Tryz.f168.name, by decide, Tryz.func168.trans (congrArg some (by kernel_rfl))⟩
  f19 := Tryz.func205.trans (congrArg some (by kernel_rfl))
  f20 := Tryz.func206.trans (congrArg some (by kernel_rfl))
  f21 := ⟨Tryz.f197.name, by decide, Tryz.func197.trans (congrArg some (by kernel_rfl))⟩
  f22 := ⟨Tryz.f198.name, by decide, Tryz.func198.trans (congrArg some (by kernel_rfl))⟩
  f23 := ⟨Tryz.f199.name, by decide, Tryz.func199.trans (congrArg some (by kernel_rfl))⟩
  f24 := ⟨Tryz.f200.name, by decide, Tryz.func200.trans (congrArg some (by kernel_rfl))⟩
  f25 := ⟨Tryz.f201.name, by decide, Tryz.func201.trans (congrArg some (by kernel_rfl))⟩
  f26 := ⟨Tryz.f202.name, by decide, Tryz.func202.trans (congrArg some (by kernel_rfl))⟩
  f27 := ⟨Tryz.f166.name, by decide, Tryz.func166.trans (congrArg some (by kernel_rfl))⟩
  f28 := ⟨Tryz.f203.name, by decide, Tryz.func203.trans (congrArg some (by kernel_rfl))⟩
  f29 := ⟨Tryz.f204.name, by decide, Tryz.func204.trans (congrArg some (by kernel_rfl))⟩
  f31 := Tryz.func229.trans (congrArg some (by kernel_rfl))
  f32 := Tryz.func230.trans (congrArg some (by kernel_rfl))
  f36 := ⟨Tryz.f228.name, by decide, Tryz.func228.trans (congrArg some (by kernel_rfl))⟩
  f37 := ⟨Tryz.f231.name, by decide, Tryz.func231.trans (congrArg some (by kernel_rfl))⟩
  f38 := ⟨Tryz.f232.name, by decide, Tryz.func232.trans (congrArg some (by kernel_rfl))⟩
  f39 := ⟨Tryz.f183.name, by decide, Tryz.func183.trans (congrArg some (by kernel_rfl))⟩
  f41 := ⟨Tryz.f254.name, by decide, Tryz.func254.trans (congrArg some (by kernel_rfl))⟩
  t0 := Tryz.underlying0
  a0 := Tryz.isAgg0
  z0 := Tryz.sizeOf0
  v0 := Tryz.zeroValue0
  t3 := Tryz.underlying3
  a3 := Tryz.isAgg3
  z3 := Tryz.sizeOf3
  v3 := Tryz.zeroValue3
  t4 := Tryz.underlying4
  a4 := Tryz.isAgg4
  z4 := Tryz.sizeOf4
  v4 := Tryz.zeroValue4
  t5 := Tryz.underlying5
  a5 := Tryz.isAgg5
  z5 := Tryz.sizeOf5
  v5 := Tryz.zeroValue5
  t9 := Tryz.underlying9
  a9 := Tryz.isAgg9
  z9 := Tryz.sizeOf9
  v9 := Tryz.zeroValue9
  t26 := Tryz.underlying24
  a26 := Tryz.isAgg24
  z26 := Tryz.sizeOf24
  v26 := Tryz.zeroValue24
  t27 := Tryz.underlying24
  a27 := Tryz.isAgg24
  z27 := Tryz.sizeOf24
  v27 := Tryz.zeroValue24
  t29 := Tryz.underlying9
  a29 := Tryz.isAgg9
  z29 := Tryz.sizeOf9
  v29 := Tryz.zeroValue9
  t32 := Tryz.underlying205
  a32 := Tryz.isAgg205
  z32 := Tryz.sizeOf205
  v32 := Tryz.zeroValue205
  t35 := Tryz.underlying225
  a35 := Tryz.isAgg225
  z35 := Tryz.sizeOf225
  v35 := Tryz.zeroValue225
  t36 := Tryz.underlying226
  a36 := Tryz.isAgg226
  z36 := Tryz.sizeOf226
  v36 := Tryz.zeroValue226
  t41 := Tryz.underlying148
  a41 := Tryz.isAgg148
  z41 := Tryz.sizeOf148
  v41 := Tryz.zeroValue148
  t44 := Tryz.underlying53
  a44 := Tryz.isAgg53
  z44 := Tryz.sizeOf53
  v44 := Tryz.zeroValue53
  t46 := Tryz.underlying201
  a46 := Tryz.isAgg201
  z46 := Tryz.sizeOf201
  v46 := Tryz.zeroValue201
  t53 := Tryz.underlying243
  a53 := Tryz.isAgg243
  z53 := Tryz.sizeOf243
  v53 := Tryz.zeroValue243
  t57 := Tryz.underlying247
  a57 := Tryz.isAgg247
  z57 := Tryz.sizeOf247
  v57 := Tryz.zeroValue247
  t63 := Tryz.underlying263
  a63 := Tryz.isAgg263
  z63 := Tryz.sizeOf263
  v63 := Tryz.zeroValue263
  t64 := Tryz.underlying264
  a64 := Tryz.isAgg264
  z64 := Tryz.sizeOf264
  v64 := Tryz.zeroValue264 }
end Go.Proofs
end
section
set_option linter.unusedVariables false
set_option linter.unusedSimpArgs false
namespace Go.Proofs.YtajeeghgiilhiaaGreat
open Go Go.Abs Go.RowKit Go.Bk
theorem tup2_0 {im : Im} (a b : Value) : VR0 im (.tup [.v a, .v b]) (.tuple #[a, b]) := .tup [_, _] [_, _] rfl (fun i c u h1 h2 => by
  match i with
  | 0 => simp at h1 h2; subst h1; subst h2; exact .v _
  | 1 => simp at h1 h2; subst h1; subst h2; exact .v _
  | i + 2 => simp at h1)
theorem tup2 {c : Ctx} (a b : Value) : VR c (.tup [.v a, .v b]) (.tuple #[a, b]) := .base (tup2_0 a b)
theorem mul64_c (x y : Nat) (hx : x < 18446744073709551616) (hy : y < 18446744073709551616) : ACalls E 161 [.v (.int .u64 x), .v (.int .u64 y)] (fun r t => r = .tup [.v (.int .u64 ((x * y / 18446744073709551616 : Nat) : Int)), .v (.int .u64 ((x * y % 18446744073709551616 : Nat) : Int))] ∧ t = []) :=
  ACalls.of_pure (E := E) (f := 161) (xs := [.int .u64 x, .int .u64 y]) (S := fun v => v = .tuple #[.int .u64 ((x * y / 18446744073709551616 : Nat) : Int), .int .u64 ((x * y % 18446744073709551616 : Nat) : Int)])
    (fun w _ => (Tryz.bits_Mul64 x y hx hy w).mono (by rintro e w' ⟨rfl, rfl⟩; exact ⟨⟨_, rfl, rfl⟩, rfl⟩))
    (by rintro v rfl; exact ⟨_, fun _ => tup2_0 _ _, rfl, rfl⟩)
theorem add64_run (x y c : Int) (hx : 0 ≤ x) (hx2 : x < M64) (hy : 0 ≤ y) (hy2 : y < M64) (hc : 0 ≤ c) (hc2 : c ≤ 1) (w : World) : (callFunc 188 #[.int .u64 x, .int .u64 y, .int .u64 c]).run E.P w = .ok (.value (.tuple #[.int .u64 ((x + y + c) % M64), .int .u64 ((x + y + c) / M64)])) w := by
  obtain ⟨x, rfl⟩ := Int.eq_ofNat_of_zero_le hx
  obtain ⟨y, rfl⟩ := Int.eq_ofNat_of_zero_le hy
  obtain ⟨c, rfl⟩ := Int.eq_ofNat_of_zero_le hc
  unfold M64 at *
  show (callFunc 188 _).run Tryz.prog w = _
  rw [run_callFunc_extern Tryz.func188 (by kernel_rfl) (by kernel_rfl) (by kernel_rfl) (e := add64Entry) (by kernel_rfl), run_add64 x y c (by omega) (by omega) (by omega) (by omega)]
  simp only [Result.andThen]
  (try congr 5 <;> omega)
theorem add_step1 {l : List Int} {i : Nat} {n : Int} (hn : l[i]? = some n) (w : World) : (callFunc 188 [.int .u64 (loW (sumL (l.take i))), .int .u64 (IntKind.u64.wrap n), .int .u64 0].toArray).run E.P w = .ok (.value (.tuple #[.int .u64 (loW (sumL (l.take (i + 1)))), .int .u64 ((loW (sumL (l.take i)) + n % M64) / M64)])) w := by
  have h1 := lo_rng (sumL (l.take i))
  have h2 : 0 ≤ n % M64 ∧ n % M64 < M64 := ⟨Int.emod_nonneg _ (by decide), Int.emod_lt_of_pos _ (by decide)⟩
  rw [u64_wrap]
  refine (add64_run _ _ 0 h1.1 h1.2 h2.1 h2.2 (by omega) (by omega) w).trans ?_
  rw [Int.add_zero, add_lo, take_next hn, sumL_app]
  simp [sumL]
theorem add_step2 {l : List Int} {i : Nat} {n : Int} (hn : l[i]? = some n) (hr : -4611686018427387904 ≤ n ∧ n ≤ 4611686018427387904) (w : World) : (callFunc 188 [.int .u64 (hiW (sumL (l.take i))), .int .u64 (IntKind.u64.wrap (n.fdiv (2 ^ (min 63 64)))), .int .u64 ((loW (sumL (l.take i)) + n % M64) / M64)].toArray).run E.P w =
    .ok (.value (.tuple #[.int .u64 (hiW (sumL (l.take (i + 1)))), .int .u64 ((hiW (sumL (l.take i)) + (n / 9223372036854775808) % M64 + (loW (sumL (l.take i)) + n % M64) / M64) / M64)])) w := by
  have h1 := hi_rng (sumL (l.take i))
  have h2 : 0 ≤ (n / 9223372036854775808) % M64 ∧ (n / 9223372036854775808) % M64 < M64 := ⟨Int.emod_nonneg _ (by decide), Int.emod_lt_of_pos _ (by decide)⟩
  have h3 := add_carry (sumL (l.take i)) n
  rw [u64_wrap, show (2 : Int) ^ (min 63 64) = 9223372036854775808 by decide, Int.fdiv_eq_ediv_of_nonneg _ (by omega)]
  refine (add64_run _ _ _ h1.1 h1.2 h2.1 h2.2 (by omega) (by omega) w).trans ?_
  rw [add_hi (by omega) (by omega), take_next hn, sumL_app]
  simp [sumL]
theorem all_num {l : List Int} {i : Nat} {n : Int} (hn : l[i]? = some n) (h : (l.take i).all numB = true) (h2 : numB n = true) : (l.take (i + 1)).all numB = true := by
  rw [take_next hn, List.all_append, h]; simp [h2]
section
variable {a b : Int}
theorem mul_no1 (h : numB a = false) : mulF a b = (0, false) := by unfold mulF; simp [h]
theorem mul_no2 (h : numB b = false) : mulF a b = (0, false) := by unfold mulF; simp [h]
theorem mul_abs : (a * b).natAbs = a.natAbs * b.natAbs := Int.natAbs_mul a b
theorem mul_no3 (h : ¬ ((a.natAbs * b.natAbs / 18446744073709551616 : Nat) : Int) = 0 ∨ (4611686018427387904 : Int) < ((a.natAbs * b.natAbs % 18446744073709551616 : Nat) : Int)) : mulF a b = (0, false) := by
  have hm : numB (a * b) = false := by
    rw [numB_no]; rw [← mul_abs] at h; omega
  unfold mulF; simp [hm]
theorem mul_cast : ((a.natAbs * b.natAbs : Nat) : Int) = (a.natAbs : Int) * (b.natAbs : Int) := Int.natCast_mul _ _
theorem mul_neg (c : ¬ decide (a < 0) = decide (b < 0)) : a * b = -((a.natAbs * b.natAbs : Nat) : Int) := by
  rw [mul_cast]
  by_cases h1 : a < 0 <;> by_cases h2 : b < 0
  · simp [h1, h2] at c
  · rw [show (a.natAbs : Int) = -a by omega, show (b.natAbs : Int) = b by omega, Int.neg_mul, Int.neg_neg]
  · rw [show (a.natAbs : Int) = a by omega, show (b.natAbs : Int) = -b by omega, Int.mul_neg, Int.neg_neg]
  · simp [h1, h2] at c
theorem mul_pos' (c : decide (a < 0) = decide (b < 0)) : a * b = ((a.natAbs * b.natAbs : Nat) : Int) := by
  rw [mul_cast]
  by_cases h1 : a < 0 <;> by_cases h2 : b < 0
  · rw [show (a.natAbs : Int) = -a by omega, show (b.natAbs : Int) = -b by omega, Int.neg_mul, Int.mul_neg, Int.neg_neg]
  · simp [h1, h2] at c
  · simp [h1, h2] at c
  · rw [show (a.natAbs : Int) = a by omega, show (b.natAbs : Int) = b by omega]
variable (ha : numB a = true) (hb : numB b = true) (h : ((a.natAbs * b.natAbs / 18446744073709551616 : Nat) : Int) = 0) (h2 : ¬ (4611686018427387904 : Int) < ((a.natAbs * b.natAbs % 18446744073709551616 : Nat) : Int))
include ha hb h h2
theorem mul_fin : mulF a b = (a * b, true) := by
  have : numB (a * b) = true := by
    rw [numB_iff]; rw [← mul_abs] at h h2; omega
  unfold mulF; rw [ha, hb, this]; rfl
theorem mul_y1 (c : ¬ decide (a < 0) = decide (b < 0)) : IntKind.i64.wrap (0 - IntKind.i64.wrap ((a.natAbs * b.natAbs % 18446744073709551616 : Nat) : Int)) = (mulF a b).1 := by
  rw [mul_fin ha hb h h2, mul_neg c]
  generalize a.natAbs * b.natAbs = p at *
  rw [wrap64_id (x := ((p % 18446744073709551616 : Nat) : Int)) (by omega) (by omega), wrap64_id (by omega) (by omega)]; simp only []; omega
theorem mul_y2 (c : decide (a < 0) = decide (b < 0)) : IntKind.i64.wrap ((a.natAbs * b.natAbs % 18446744073709551616 : Nat) : Int) = (mulF a b).1 := by
  rw [mul_fin ha hb h h2, mul_pos' c]
  generalize a.natAbs * b.natAbs = p at *
  rw [wrap64_id (by omega) (by omega)]; simp only []; omega
end
theorem wrap_lo (s : Int) : IntKind.i64.wrap (loW s) = IntKind.i64.wrap s := by
  unfold IntKind.wrap loW
  have h3 : (s % M64) % (2 : Int) ^ IntKind.i64.bits = s % (2 : Int) ^ IntKind.i64.bits := by
    show (s % M64) % (2 : Int) ^ 64 = s % (2 : Int) ^ 64
    unfold M64; omega
  exact congrArg (fun r : Int => if (IntKind.i64.signed && decide (r ≥ 2 ^ (IntKind.i64.bits - 1))) = true then r - 2 ^ IntKind.i64.bits else r) h3
section
variable {l : List Int} {i : Nat} (hl : l.length ≤ 1000000) (hi : ¬ (i : Int) < l.length) (hi2 : i ≤ l.length) (ha : (l.take i).all numB = true)
include hl hi ha
theorem sum_fits (h : hiW (sumL (l.take i)) = IntKind.u64.wrap ((IntKind.i64.wrap (loW (sumL (l.take i)))).fdiv (2 ^ min 63 64))) : IntKind.i64.wrap (loW (sumL (l.take i))) = sumL (l.take i) := by
  have hb := sumL_bnd ha
  have hlen : (l.take i).length ≤ 1000000 := by rw [List.length_take]; omega
  rw [u64_wrap, show (2 : Int) ^ (min 63 64) = 9223372036854775808 by decide, Int.fdiv_eq_ediv_of_nonneg _ (by omega)] at h
  exact (fits (by omega) (by omega)).1 h
theorem sum_no1 (h : hiW (sumL (l.take i)) = IntKind.u64.wrap ((IntKind.i64.wrap (loW (sumL (l.take i)))).fdiv (2 ^ min 63 64))) (c : numB (IntKind.i64.wrap (loW (sumL (l.take i)))) = false) : sumF l = (0, false) := by
  rw [sum_fits hl hi ha h] at c
  rw [List.take_of_length_le (by omega)] at c ha
  exact sumF_over ha c
theorem sum_yes (h : hiW (sumL (l.take i)) = IntKind.u64.wrap ((IntKind.i64.wrap (loW (sumL (l.take i)))).fdiv (2 ^ min 63 64))) (c : numB (IntKind.i64.wrap (loW (sumL (l.take i)))) = true) : sumF l = (IntKind.i64.wrap (loW (sumL (l.take i))), true) := by
  rw [sum_fits hl hi ha h] at c ⊢
  rw [List.take_of_length_le (by omega)] at c ha ⊢
  exact sumF_yes ha c
theorem sum_no2 (h : ¬ hiW (sumL (l.take i)) = IntKind.u64.wrap ((IntKind.i64.wrap (loW (sumL (l.take i)))).fdiv (2 ^ min 63 64))) : sumF l = (0, false) := by
  have hb := sumL_bnd ha
  have hlen : (l.take i).length ≤ 1000000 := by rw [List.length_take]; omega
  rw [u64_wrap, show (2 : Int) ^ (min 63 64) = 9223372036854775808 by decide, Int.fdiv_eq_ediv_of_nonneg _ (by omega), fits (by omega) (by omega), wrap_lo] at h
  have hn : numB (sumL (l.take i)) = false := by
    rw [numB_no]; intro h2; exact h (wrap64_id (by omega) (by omega))
  rw [List.take_of_length_le (by omega)] at ha hn
  exact sumF_over ha hn
end

set_option maxHeartbeats 4000000 in
set_option maxRecDepth 8000 in
theorem numr_c (n : Int) : ACalls E 105 [i64 n] (fun r t => r = bl (numB n) ∧ t = []) := by -- checkroll/num.Right
  refine ACalls.of_awp (n := 9) (rs := [.tmp 2]) Tryz.func105 rfl Tryz.ntmps105 rfl ?_
  repeat' (first
    | refine AWP.seqk fun K hK => ?_
    | (refine AWP.region ?_; simp only [go_sem])
    | (refine hK _ ?_; clear hK K)
    | refine AWP.block ?_
    | refine AWP.cond rfl (fun c => ?_) (fun c => ?_) <;> first | exact Bool.noConfusion c | (try simp only [dD] at c)
    | refine AWP.skip ?_
    | (refine AWP.exit ?_; simp only [go_sem])
    | (refine AGuard.splitN (fun h => ?_) (fun h => ?_) <;> simp only [h, go_sem] <;> (try simp only [dD] at h))
    | (refine AGuard.split (fun h => ?_) (fun h => ?_) <;> simp only [h, go_sem] <;> (try simp only [dD] at h))
    | (refine AGet.haveM (by assumption) ?_; (try simp only [go_sem]))
    | (refine AGet.have' (by assumption) ?_; (try simp only [go_sem]))
    | ((first | refine AGet.nth ?_ (fun b hb => ?_) | refine AGet.nth1 ?_ (fun b hb => ?_) | with_reducible refine And.intro ?_ ?_); (focus (first | omega | assumption | exact List.length_pos_iff.2 (by assumption) | (simp only [List.length_append, List.length_cons, List.length_nil, List.length_map, List.length_take, List.length_drop] at *; omega) | (rw [wrap64_id (by omega) (by omega)]; omega) | (simp; done) | (simp [spare_len]; done) | (exact ⟨by omega, by omega⟩))); (try simp only [hb, go_sem]))
    | (
        refine AWP.ret ?_
        refine AEnd.is ?_; simp only [go_sem, out_v, out_s, out_n, v_int, v_bool, v_str] <;> (simp [numB, *] <;> omega))
    | refine AWP.fin (by assumption) ?_)

set_option maxHeartbeats 4000000 in
set_option maxRecDepth 8000 in
theorem nsize_c (n : Int) (h : numB n = true) : ACalls E 162 [i64 n] (fun r t => r = .v (.int .u64 (n.natAbs : Int)) ∧ t = []) := by -- checkroll/num.size
  have hb := numB_iff.1 h
  refine ACalls.of_awp (n := 9) (rs := [.tmp 2]) Tryz.func162 rfl Tryz.ntmps162 rfl ?_
  repeat' (first
    | refine AWP.seqk fun K hK => ?_
    | (refine AWP.region ?_; simp only [go_sem])
    | (refine hK _ ?_; clear hK K)
    | refine AWP.block ?_
    | refine AWP.cond rfl (fun c => ?_) (fun c => ?_) <;> first | exact Bool.noConfusion c | (try simp only [dD] at c)
    | refine AWP.skip ?_
    | (refine AWP.exit ?_; simp only [go_sem])
    | (refine AGet.haveM (by assumption) ?_; (try simp only [go_sem]))
    | (refine AGet.have' (by assumption) ?_; (try simp only [go_sem]))
    | ((first | refine AGet.nth ?_ (fun b hb => ?_) | refine AGet.nth1 ?_ (fun b hb => ?_) | with_reducible refine And.intro ?_ ?_); (focus (first | omega | assumption | exact List.length_pos_iff.2 (by assumption) | (simp only [List.length_append, List.length_cons, List.length_nil, List.length_map, List.length_take, List.length_drop] at *; omega) | (rw [wrap64_id (by omega) (by omega)]; omega) | (simp; done) | (simp [spare_len]; done) | (exact ⟨by omega, by omega⟩))); (try simp only [hb, go_sem]))
    | (
        refine AWP.ret ?_
        refine AEnd.is ?_; simp only [go_sem, out_v, out_s, out_n, v_int, v_bool, v_str] <;> (first | (rw [u64_wrap]; unfold M64; rw [wrap64_id (by omega) (by omega)]; omega) | (rw [u64_wrap]; unfold M64; omega) | skip))
    | refine AWP.fin (by assumption) ?_)

set_option maxHeartbeats 4000000 in
set_option maxRecDepth 8000 in
theorem nmul_c (a b : Int) : ACalls E 95 [i64 a, i64 b] (fun r t => r = .tup [i64 (mulF a b).1, bl (mulF a b).2] ∧ t = []) := by -- checkroll/num.Mul
  refine ACalls.of_awp (n := 41) (rs := [.tmp 4, .tmp 5]) Tryz.func95 rfl Tryz.ntmps95 rfl ?_
  repeat' (first
    | refine AWP.seqk fun K hK => ?_
    | (refine AWP.region ?_; simp only [go_sem])
    | (refine hK _ ?_; clear hK K)
    | refine AWP.block ?_
    | refine AWP.cond rfl (fun c => ?_) (fun c => ?_) <;> first | exact Bool.noConfusion c | (try simp only [dD] at c)
    | refine AWP.skip ?_
    | (refine AWP.exit ?_; simp only [go_sem])
    | (refine ACall.one (numr_c _) (by kernel_rfl) rfl ?_; simp only [go_sem])
    | (refine ACall.one (nsize_c _ (by assumption)) (by kernel_rfl) rfl ?_; simp only [go_sem])
    | (have ha := numB_iff.1 (show numB a = true by assumption); have hb := numB_iff.1 (show numB b = true by assumption); refine ACall.one (mul64_c a.natAbs b.natAbs (by omega) (by omega)) (by kernel_rfl) rfl ?_; simp only [go_sem])
    | (refine AGuard.splitN (fun h => ?_) (fun h => ?_) <;> simp only [h, go_sem] <;> (try simp only [dD] at h))
    | (refine AGuard.split (fun h => ?_) (fun h => ?_) <;> simp only [h, go_sem] <;> (try simp only [dD] at h))
    | (refine AGet.haveM (by assumption) ?_; (try simp only [go_sem]))
    | (refine AGet.have' (by assumption) ?_; (try simp only [go_sem]))
    | ((first | refine AGet.nth ?_ (fun b hb => ?_) | refine AGet.nth1 ?_ (fun b hb => ?_) | with_reducible refine And.intro ?_ ?_); (focus (first | omega | assumption | exact List.length_pos_iff.2 (by assumption) | (simp only [List.length_append, List.length_cons, List.length_nil, List.length_map, List.length_take, List.length_drop] at *; omega) | (rw [wrap64_id (by omega) (by omega)]; omega) | (simp; done) | (simp [spare_len]; done) | (exact ⟨by omega, by omega⟩))); (try simp only [hb, go_sem]))
    | (
        refine AWP.ret ?_
        refine AEnd.is ?_; simp only [go_sem, out_v, out_s, out_n, v_int, v_bool, v_str] <;> (first
        | (rw [mul_no1 (by assumption)]; simp; done)
        | (rw [mul_no2 (by assumption)]; simp; done)
        | (rw [mul_no3 (.inl (by assumption))]; simp; done)
        | (rw [mul_no3 (.inr (by assumption))]; simp; done)
        | (rw [mul_y1 (by assumption) (by assumption) (by assumption) (by assumption) (by assumption), mul_fin (by assumption) (by assumption) (by assumption) (by assumption)]; simp; done)
        | (rw [mul_y2 (by assumption) (by assumption) (by assumption) (by assumption) (by assumption), mul_fin (by assumption) (by assumption) (by assumption) (by assumption)]; simp; done)
        | skip))
    | refine AWP.fin (by assumption) ?_)

set_option maxHeartbeats 4000000 in
set_option maxRecDepth 8000 in
theorem nsum_c (l : List Int) (hl : l.length ≤ 1000000) : ACalls E 141 [.sl none 1 (l.map i64)] (fun r t => r = .tup [i64 (sumF l).1, bl (sumF l).2] ∧ t = []) := by -- checkroll/num.Sum
  refine ACalls.of_awp (n := 49) (rs := [.tmp 2, .tmp 3]) Tryz.func141 rfl Tryz.ntmps141 rfl ?_
  repeat' (first
    | refine AWP.seqk fun K hK => ?_
    | (
        refine AWP.here 4 14 3 rfl ?_
        obtain ⟨n, hn⟩ : ∃ n, l[i]? = some n := ⟨_, List.getElem?_eq_getElem (by omega)⟩
        refine AWP.region ?_; simp only [go_sem])
    | (
        refine AWP.here 8 20 9 rfl ?_
        have hnr := numB_iff.1 (show numB n = true by assumption)
        refine AWP.regionL ?_
        refine AWPL.at 9 3 rfl ?_
        simp only [go_sem]
        refine AWPL.native [.int .u64 (loW (sumL (l.take i))), .int .u64 (IntKind.u64.wrap n), .int .u64 0] _ _ rfl (add_step1 hn) (fun c => tup2 _ _) ?_
        simp only [go_sem]
        refine AWPL.of ?_
        simp only [go_sem])
    | (
        refine AWP.here 9 27 10 rfl ?_
        refine AWP.regionL ?_
        refine AWPL.at 10 5 rfl ?_
        simp only [go_sem]
        refine AWPL.native [.int .u64 (hiW (sumL (l.take i))), .int .u64 (IntKind.u64.wrap (n.fdiv (2 ^ (min 63 64)))), .int .u64 ((loW (sumL (l.take i)) + n % M64) / M64)] _ _ rfl (add_step2 hn hnr) (fun c => tup2 _ _) ?_
        simp only [go_sem]
        refine AWPL.of ?_
        simp only [go_sem])
    | (refine AWP.region ?_; simp only [go_sem])
    | (refine hK _ ?_; clear hK K)
    | refine AWP.block ?_
    | refine AWP.cond rfl (fun c => ?_) (fun c => ?_) <;> first | exact Bool.noConfusion c | (try simp only [dD] at c)
    | refine AWP.skip ?_
    | (refine AWP.exit ?_; simp only [go_sem])
    | (refine ACall.one (numr_c _) (by kernel_rfl) rfl ?_; simp only [go_sem])
    | (refine AGuard.splitN (fun h => ?_) (fun h => ?_) <;> simp only [h, go_sem] <;> (try simp only [dD] at h))
    | (refine AGuard.split (fun h => ?_) (fun h => ?_) <;> simp only [h, go_sem] <;> (try simp only [dD] at h))
    | (refine AGet.haveM (by assumption) ?_; (try simp only [go_sem]))
    | (refine AGet.have' (by assumption) ?_; (try simp only [go_sem]))
    | ((first | refine AGet.nth ?_ (fun b hb => ?_) | refine AGet.nth1 ?_ (fun b hb => ?_) | with_reducible refine And.intro ?_ ?_); (focus (first | omega | assumption | exact List.length_pos_iff.2 (by assumption) | (simp only [List.length_append, List.length_cons, List.length_nil, List.length_map, List.length_take, List.length_drop] at *; omega) | (rw [wrap64_id (by omega) (by omega)]; omega) | (simp; done) | (simp [spare_len]; done) | (exact ⟨by omega, by omega⟩))); (try simp only [hb, go_sem]))
    | (
        refine AWP.here 3 13 1 rfl ?_
        refine AWP.loopN (ι := Nat) [2, 3, 7, 8, 13, 14, 15, 16, 17, 18, 19, 20, 21, 22, 23, 24, 25, 26, 27, 28, 29, 30, 31, 32, 33, 34, 35] (fun (i : Nat) => [(12, i64 i), (4, (.v (.int .u64 (hiW (sumL (l.take i)))))), (5, (.v (.int .u64 (loW (sumL (l.take i))))))]) (fun (i : Nat) => i ≤ l.length ∧ (l.take i).all numB = true) (fun (i : Nat) => l.length - i) (0) ?_ ?_ ?_
        · (try simp only [go_sem]); (repeat' (first | refine And.intro ?_ ?_ | exact .inl rfl | exact .inr rfl | exact .inr ⟨rfl, rfl⟩ | trivial | exact .inr (oblA rfl) | exact .inr ⟨rfl, oblA rfl⟩ | exact .inr bel_strs | exact .inr ⟨rfl, bel_strs⟩ | exact .inr ⟨by simp, bel_strs⟩ | (simp; done) | exact .inr ⟨rfl, by simp⟩ | exact .inr ⟨by simp, by simp⟩)); done
        · exact ⟨Nat.zero_le _, by simp⟩
        rintro i ⟨h1, h2⟩
        simp only [go_sem])
    | (
        refine ⟨i + 1, ?_, ?_, ?_⟩
        · (try simp only [go_sem]); (try rw [wrap64_id (by omega) (by omega)]); (try rw [step_hi hn hnr]); (repeat' (first | refine And.intro ?_ ?_ | exact .inl rfl | exact .inr rfl | exact .inr ⟨rfl, rfl⟩ | trivial | exact .inr (oblA rfl) | exact .inr ⟨rfl, oblA rfl⟩ | exact .inr bel_strs | exact .inr ⟨rfl, bel_strs⟩ | exact .inr ⟨by simp, bel_strs⟩ | (simp; done) | exact .inr ⟨rfl, by simp⟩ | exact .inr ⟨by simp, by simp⟩)); done
        · exact ⟨by omega, all_num hn h2 (by assumption)⟩
        · (try simp only []); omega)
    | (
        refine AWP.ret ?_
        refine AEnd.is ?_; simp only [go_sem, out_v, out_s, out_n, v_int, v_bool, v_str] <;> (first
        | (rw [sumF_no hn (by assumption)]; simp; done)
        | (rw [sum_no1 hl (by assumption) h2 (by assumption) (by assumption)]; simp; done)
        | (rw [sum_yes hl (by assumption) h2 (by assumption) (by assumption)]; simp; done)
        | (rw [sum_no2 hl (by assumption) h2 (by assumption)]; simp; done)
        | skip))
    | refine AWP.fin (by assumption) ?_)


end Go.Proofs.YtajeeghgiilhiaaGreat
end
section
set_option linter.unusedVariables false
set_option linter.unusedSimpArgs false
namespace Go.Proofs.YtajeeghgiilhiaaGreat
open Go Go.Abs Go.RowKit Go.Bk

set_option maxHeartbeats 4000000 in
set_option maxRecDepth 8000 in
theorem oindex_c (l : List Od) (id : Bs) (hl : l.length ≤ 9223372036854775807) : ACalls E 154 [odsV l, .fn 195 [.rptr [str id]]] (fun r t => r = i64 (placeI l id) ∧ t = []) := by -- slices.IndexFunc[[]checkroll/api.Order,checkroll/api.Order]
  refine ACalls.of_awp (n := 19) (rs := [.tmp 4]) Tryz.func154 rfl Tryz.ntmps154 rfl ?_
  refine AWP.seqk fun K1 hK1 => ?_
  refine AWP.region ?_
  simp only [go_sem] -- region 0
  repeat' (first | (refine AGet.haveM (by assumption) ?_; (try simp only [go_sem])) | (refine AGet.have' (by assumption) ?_; (try simp only [go_sem])) | ((first | refine AGet.nth ?_ (fun b hb => ?_) | refine AGet.nth1 ?_ (fun b hb => ?_) | with_reducible refine And.intro ?_ ?_); (focus ((first | omega | exact List.length_pos_iff.2 (by assumption) | (simp only [List.length_append, List.length_cons, List.length_nil, List.length_map, List.length_take, List.length_drop] at *; omega) | (rw [wrap64_id (by omega) (by omega)]; omega) | (simp; done)))); (try simp only [hb, go_sem])))
  refine hK1 _ ?_; clear hK1 K1
  refine AWP.seqk fun K2 hK2 => ?_
  refine AWP.seqk fun K3 hK3 => ?_
  refine AWP.region ?_
  simp only [go_sem] -- region 1
  repeat' (first | (refine AGet.haveM (by assumption) ?_; (try simp only [go_sem])) | (refine AGet.have' (by assumption) ?_; (try simp only [go_sem])) | ((first | refine AGet.nth ?_ (fun b hb => ?_) | refine AGet.nth1 ?_ (fun b hb => ?_) | with_reducible refine And.intro ?_ ?_); (focus ((first | omega | exact List.length_pos_iff.2 (by assumption) | (simp only [List.length_append, List.length_cons, List.length_nil, List.length_map, List.length_take, List.length_drop] at *; omega) | (rw [wrap64_id (by omega) (by omega)]; omega) | (simp; done)))); (try simp only [hb, go_sem])))
  refine hK3 _ ?_; clear hK3 K3
  refine AWP.block ?_ -- 0
  refine AWP.loopH (ι := Nat) [4, 5, 9, 10, 11, 12, 13, 14, 15, 16, 17, 18] (fun (i : Nat) => [(8, i64 i)]) (fun (i : Nat) => i ≤ l.length ∧ (l.take i).all (fun o => !decide (o.id = id)) = true) (fun (i : Nat) => l.length - i) (0) ?_ ?_ ?_
  · (try simp only [go_sem]); try (simp; done)
  · exact ⟨by omega, by simp⟩
  rintro i ⟨h1, h2⟩
  simp only [go_sem]
  refine AWP.seqk fun K4 hK4 => ?_
  refine AWP.region ?_
  simp only [go_sem] -- region 2
  repeat' (first | (refine AGet.haveM (by assumption) ?_; (try simp only [go_sem])) | (refine AGet.have' (by assumption) ?_; (try simp only [go_sem])) | ((first | refine AGet.nth ?_ (fun b hb => ?_) | refine AGet.nth1 ?_ (fun b hb => ?_) | with_reducible refine And.intro ?_ ?_); (focus ((first | omega | exact List.length_pos_iff.2 (by assumption) | (simp only [List.length_append, List.length_cons, List.length_nil, List.length_map, List.length_take, List.length_drop] at *; omega) | (rw [wrap64_id (by omega) (by omega)]; omega) | (simp; done)))); (try simp only [hb, go_sem])))
  refine hK4 _ ?_; clear hK4 K4
  refine AWP.seqk fun K5 hK5 => ?_
  refine AWP.cond rfl (fun c9 => ?_) (fun c9 => ?_)
  · first | exact Bool.noConfusion c9 | (
      try simp only [dD] at c9
      refine AWP.skip ?_
      refine hK5 _ ?_; clear hK5 K5
      refine AWP.seqk fun K6 hK6 => ?_
      refine AWP.block ?_ -- 1
      refine AWP.seqk fun K7 hK7 => ?_
      refine AWP.region ?_
      simp only [go_sem] -- region 3
      repeat' (first | (refine AGet.haveM (by assumption) ?_; (try simp only [go_sem])) | (refine AGet.have' (by assumption) ?_; (try simp only [go_sem])) | ((first | refine AGet.nth ?_ (fun b hb => ?_) | refine AGet.nth1 ?_ (fun b hb => ?_) | with_reducible refine And.intro ?_ ?_); (focus ((first | omega | exact List.length_pos_iff.2 (by assumption) | (simp only [List.length_append, List.length_cons, List.length_nil, List.length_map, List.length_take, List.length_drop] at *; omega) | (rw [wrap64_id (by omega) (by omega)]; omega) | (simp; done)))); (try simp only [hb, go_sem])))
      refine hK7 _ ?_; clear hK7 K7
      refine AWP.seqk fun K8 hK8 => ?_
      refine AWP.region ?_
      simp only [go_sem] -- region 4
      repeat' (first | (refine ACall.one (place1_c _ _) (by kernel_rfl) rfl ?_; simp only [go_sem]) | (refine AGet.haveM (by assumption) ?_; (try simp only [go_sem])) | (refine AGet.have' (by assumption) ?_; (try simp only [go_sem])) | ((first | refine AGet.nth ?_ (fun b hb => ?_) | refine AGet.nth1 ?_ (fun b hb => ?_) | with_reducible refine And.intro ?_ ?_); (focus ((first | omega | exact List.length_pos_iff.2 (by assumption) | (simp only [List.length_append, List.length_cons, List.length_nil, List.length_map, List.length_take, List.length_drop] at *; omega) | (rw [wrap64_id (by omega) (by omega)]; omega) | (simp; done)))); (try simp only [hb, go_sem])))
      refine hK8 _ ?_; clear hK8 K8
      refine AWP.cond rfl (fun c16 => ?_) (fun c16 => ?_)
      · first | exact Bool.noConfusion c16 | (
          try simp only [dD] at c16
          refine AWP.seqk fun K9 hK9 => ?_
          refine AWP.region ?_
          simp only [go_sem] -- region 5
          repeat' (first | (refine AGet.haveM (by assumption) ?_; (try simp only [go_sem])) | (refine AGet.have' (by assumption) ?_; (try simp only [go_sem])) | ((first | refine AGet.nth ?_ (fun b hb => ?_) | refine AGet.nth1 ?_ (fun b hb => ?_) | with_reducible refine And.intro ?_ ?_); (focus ((first | omega | exact List.length_pos_iff.2 (by assumption) | (simp only [List.length_append, List.length_cons, List.length_nil, List.length_map, List.length_take, List.length_drop] at *; omega) | (rw [wrap64_id (by omega) (by omega)]; omega) | (simp; done)))); (try simp only [hb, go_sem])))
          refine hK9 _ ?_; clear hK9 K9
          refine AWP.ret ?_
          try simp only [go_sem]
          clear hK6 K6 hK2 K2
          first
          | exact ⟨[], .v _, rfl, rfl, by rw [placeI_of hb (by assumption) h2], rfl⟩
          | exact ⟨[], .v _, rfl, rfl, by rw [placeI_none (by omega) h2], rfl⟩
          | skip)
      · first | exact Bool.noConfusion c16 | (
          try simp only [dD] at c16
          refine AWP.skip ?_
          refine hK6 _ ?_; clear hK6 K6
          refine AWP.region ?_
          simp only [go_sem] -- region 6
          repeat' (first | (refine AGet.haveM (by assumption) ?_; (try simp only [go_sem])) | (refine AGet.have' (by assumption) ?_; (try simp only [go_sem])) | ((first | refine AGet.nth ?_ (fun b hb => ?_) | refine AGet.nth1 ?_ (fun b hb => ?_) | with_reducible refine And.intro ?_ ?_); (focus ((first | omega | exact List.length_pos_iff.2 (by assumption) | (simp only [List.length_append, List.length_cons, List.length_nil, List.length_map, List.length_take, List.length_drop] at *; omega) | (rw [wrap64_id (by omega) (by omega)]; omega) | (simp; done)))); (try simp only [hb, go_sem])))
          clear hK2 K2
          refine ⟨i + 1, ?_, ?_, ?_⟩
          · (try simp only [go_sem]); (try rw [wrap64_id (by omega) (by omega)]); simp
          · exact ⟨by omega, all_next hb h2 (by simp; assumption)⟩
          · omega))
  · first | exact Bool.noConfusion c9 | (
      try simp only [dD] at c9
      refine AWP.exit ?_
      simp only [go_sem]
      clear hK5 K5
      refine hK2 _ ?_; clear hK2 K2
      refine AWP.seqk fun K10 hK10 => ?_
      refine AWP.region ?_
      simp only [go_sem] -- region 7
      repeat' (first | (refine AGet.haveM (by assumption) ?_; (try simp only [go_sem])) | (refine AGet.have' (by assumption) ?_; (try simp only [go_sem])) | ((first | refine AGet.nth ?_ (fun b hb => ?_) | refine AGet.nth1 ?_ (fun b hb => ?_) | with_reducible refine And.intro ?_ ?_); (focus ((first | omega | exact List.length_pos_iff.2 (by assumption) | (simp only [List.length_append, List.length_cons, List.length_nil, List.length_map, List.length_take, List.length_drop] at *; omega) | (rw [wrap64_id (by omega) (by omega)]; omega) | (simp; done)))); (try simp only [hb, go_sem])))
      refine hK10 _ ?_; clear hK10 K10
      refine AWP.ret ?_
      try simp only [go_sem]
      first
      | exact ⟨[], .v _, rfl, rfl, by rw [placeI_of hb (by assumption) h2], rfl⟩
      | exact ⟨[], .v _, rfl, rfl, by rw [placeI_none (by omega) h2], rfl⟩
      | skip)


set_option maxHeartbeats 4000000 in
set_option maxRecDepth 8000 in
theorem oplace_c (l : List Od) (id : Bs) (hl : l.length ≤ 9223372036854775807) : ACalls E 163 [odsV l, str id] (fun r t => r = i64 (placeI l id) ∧ t = []) := by -- checkroll/order.place
  refine ACalls.of_awp (n := 8) (rs := [.tmp 4]) Tryz.func163 rfl Tryz.ntmps163 rfl ?_
  refine AWP.seqk fun K1 hK1 => ?_
  refine AWP.region ?_
  simp only [go_sem] -- region 0
  repeat' (first | (refine AGet.haveM (by assumption) ?_; (try simp only [go_sem])) | (refine AGet.have' (by assumption) ?_; (try simp only [go_sem])) | ((first | refine AGet.nth ?_ (fun b hb => ?_) | refine AGet.nth1 ?_ (fun b hb => ?_) | with_reducible refine And.intro ?_ ?_); (focus ((first | omega | exact List.length_pos_iff.2 (by assumption) | (simp only [List.length_append, List.length_cons, List.length_nil, List.length_map, List.length_take, List.length_drop] at *; omega) | (rw [wrap64_id (by omega) (by omega)]; omega) | (simp; done)))); (try simp only [hb, go_sem])))
  refine hK1 _ ?_; clear hK1 K1
  refine AWP.seqk fun K2 hK2 => ?_
  refine AWP.region ?_
  simp only [go_sem] -- region 1
  repeat' (first | (refine ACall.snapOne (oindex_c l id hl) (by kernel_rfl) rfl (.cons (.one (.clean rfl)) (.cons (.fn (.cons (.ptr (e := .agg [str id]) rfl (cl_str id)) .nil)) .nil)) ?_; simp only [go_sem]) | (refine ACall.one (oindex_c _ _ (by omega)) (by kernel_rfl) rfl ?_; simp only [go_sem]) | (refine AGet.haveM (by assumption) ?_; (try simp only [go_sem])) | (refine AGet.have' (by assumption) ?_; (try simp only [go_sem])) | ((first | refine AGet.nth ?_ (fun b hb => ?_) | refine AGet.nth1 ?_ (fun b hb => ?_) | with_reducible refine And.intro ?_ ?_); (focus ((first | omega | exact List.length_pos_iff.2 (by assumption) | (simp only [List.length_append, List.length_cons, List.length_nil, List.length_map, List.length_take, List.length_drop] at *; omega) | (rw [wrap64_id (by omega) (by omega)]; omega) | (simp; done)))); (try simp only [hb, go_sem])))
  refine hK2 _ ?_; clear hK2 K2
  refine AWP.ret ?_
  try simp only [go_sem]
  exact ⟨[], .v _, rfl, rfl, rfl, rfl⟩


set_option maxHeartbeats 4000000 in
set_option maxRecDepth 8000 in
theorem oright_c (l : List Od) (hl : l.length ≤ 9223372036854775807) : ACalls E 97 [odsV l] (fun r t => r = bl (rightO l) ∧ t = []) := by -- checkroll/order.Right
  refine ACalls.of_awp (n := 28) (rs := [.tmp 2]) Tryz.func97 rfl Tryz.ntmps97 rfl ?_
  refine AWP.seqk fun K1 hK1 => ?_
  refine AWP.region ?_
  simp only [go_sem] -- region 0
  repeat' (first | (refine AGet.haveM (by assumption) ?_; (try simp only [go_sem])) | (refine AGet.have' (by assumption) ?_; (try simp only [go_sem])) | ((first | refine AGet.nth ?_ (fun b hb => ?_) | refine AGet.nth1 ?_ (fun b hb => ?_) | with_reducible refine And.intro ?_ ?_); (focus ((first | omega | exact List.length_pos_iff.2 (by assumption) | (simp only [List.length_append, List.length_cons, List.length_nil, List.length_map, List.length_take, List.length_drop] at *; omega) | (rw [wrap64_id (by omega) (by omega)]; omega) | (simp; done)))); (try simp only [hb, go_sem])))
  refine hK1 _ ?_; clear hK1 K1
  refine AWP.seqk fun K2 hK2 => ?_
  refine AWP.seqk fun K3 hK3 => ?_
  refine AWP.region ?_
  simp only [go_sem] -- region 1
  repeat' (first | (refine AGet.haveM (by assumption) ?_; (try simp only [go_sem])) | (refine AGet.have' (by assumption) ?_; (try simp only [go_sem])) | ((first | refine AGet.nth ?_ (fun b hb => ?_) | refine AGet.nth1 ?_ (fun b hb => ?_) | with_reducible refine And.intro ?_ ?_); (focus ((first | omega | exact List.length_pos_iff.2 (by assumption) | (simp only [List.length_append, List.length_cons, List.length_nil, List.length_map, List.length_take, List.length_drop] at *; omega) | (rw [wrap64_id (by omega) (by omega)]; omega) | (simp; done)))); (try simp only [hb, go_sem])))
  refine hK3 _ ?_; clear hK3 K3
  refine AWP.cond rfl (fun c7 => ?_) (fun c7 => ?_)
  · first | exact Bool.noConfusion c7 | (
      try simp only [dD] at c7
      refine AWP.seqk fun K4 hK4 => ?_
      refine AWP.region ?_
      simp only [go_sem] -- region 2
      repeat' (first | (refine AGet.haveM (by assumption) ?_; (try simp only [go_sem])) | (refine AGet.have' (by assumption) ?_; (try simp only [go_sem])) | ((first | refine AGet.nth ?_ (fun b hb => ?_) | refine AGet.nth1 ?_ (fun b hb => ?_) | with_reducible refine And.intro ?_ ?_); (focus ((first | omega | exact List.length_pos_iff.2 (by assumption) | (simp only [List.length_append, List.length_cons, List.length_nil, List.length_map, List.length_take, List.length_drop] at *; omega) | (rw [wrap64_id (by omega) (by omega)]; omega) | (simp; done)))); (try simp only [hb, go_sem])))
      refine hK4 _ ?_; clear hK4 K4
      refine AWP.ret ?_
      try simp only [go_sem]
      clear hK2 K2
      first
      | exact ⟨[], .v _, rfl, rfl, by rw [right_no1 (by omega)], rfl⟩
      | exact ⟨[], .v _, rfl, rfl, by rw [right_no2 (by omega) (okAt_no1 hb (by assumption))], rfl⟩
      | exact ⟨[], .v _, rfl, rfl, by rw [right_no2 (by omega) (okAt_no2 hb (by assumption))], rfl⟩
      | exact ⟨[], .v _, rfl, rfl, by rw [right_yes h2 (by omega) h3], rfl⟩
      | skip)
  · first | exact Bool.noConfusion c7 | (
      try simp only [dD] at c7
      refine AWP.skip ?_
      refine hK2 _ ?_; clear hK2 K2
      refine AWP.seqk fun K5 hK5 => ?_
      refine AWP.seqk fun K6 hK6 => ?_
      refine AWP.region ?_
      simp only [go_sem] -- region 3
      repeat' (first | (refine AGet.haveM (by assumption) ?_; (try simp only [go_sem])) | (refine AGet.have' (by assumption) ?_; (try simp only [go_sem])) | ((first | refine AGet.nth ?_ (fun b hb => ?_) | refine AGet.nth1 ?_ (fun b hb => ?_) | with_reducible refine And.intro ?_ ?_); (focus ((first | omega | exact List.length_pos_iff.2 (by assumption) | (simp only [List.length_append, List.length_cons, List.length_nil, List.length_map, List.length_take, List.length_drop] at *; omega) | (rw [wrap64_id (by omega) (by omega)]; omega) | (simp; done)))); (try simp only [hb, go_sem])))
      refine hK6 _ ?_; clear hK6 K6
      refine AWP.block ?_ -- 0
      refine AWP.loopH (ι := Nat) [2, 3, 4, 11, 12, 13, 14, 15, 16, 17, 18, 19, 20, 21, 22, 23, 24, 25, 26, 27] (fun (i : Nat) => [(10, i64 i)]) (fun (i : Nat) => i ≤ l.length ∧ l.length ≤ 64 ∧ rightGo l i = true) (fun (i : Nat) => l.length - i) (0) ?_ ?_ ?_
      · (try simp only [go_sem]); try (simp; done)
      · exact ⟨by omega, by omega, rfl⟩
      rintro i ⟨h1, h2, h3⟩
      simp only [go_sem]
      refine AWP.seqk fun K7 hK7 => ?_
      refine AWP.region ?_
      simp only [go_sem] -- region 4
      repeat' (first | (refine AGet.haveM (by assumption) ?_; (try simp only [go_sem])) | (refine AGet.have' (by assumption) ?_; (try simp only [go_sem])) | ((first | refine AGet.nth ?_ (fun b hb => ?_) | refine AGet.nth1 ?_ (fun b hb => ?_) | with_reducible refine And.intro ?_ ?_); (focus ((first | omega | exact List.length_pos_iff.2 (by assumption) | (simp only [List.length_append, List.length_cons, List.length_nil, List.length_map, List.length_take, List.length_drop] at *; omega) | (rw [wrap64_id (by omega) (by omega)]; omega) | (simp; done)))); (try simp only [hb, go_sem])))
      refine hK7 _ ?_; clear hK7 K7
      refine AWP.seqk fun K8 hK8 => ?_
      refine AWP.cond rfl (fun c11 => ?_) (fun c11 => ?_)
      · first | exact Bool.noConfusion c11 | (
          try simp only [dD] at c11
          refine AWP.skip ?_
          refine hK8 _ ?_; clear hK8 K8
          refine AWP.seqk fun K9 hK9 => ?_
          refine AWP.block ?_ -- 1
          refine AWP.seqk fun K10 hK10 => ?_
          refine AWP.region ?_
          simp only [go_sem] -- region 5
          repeat' (first | (refine AGet.haveM (by assumption) ?_; (try simp only [go_sem])) | (refine AGet.have' (by assumption) ?_; (try simp only [go_sem])) | ((first | refine AGet.nth ?_ (fun b hb => ?_) | refine AGet.nth1 ?_ (fun b hb => ?_) | with_reducible refine And.intro ?_ ?_); (focus ((first | omega | exact List.length_pos_iff.2 (by assumption) | (simp only [List.length_append, List.length_cons, List.length_nil, List.length_map, List.length_take, List.length_drop] at *; omega) | (rw [wrap64_id (by omega) (by omega)]; omega) | (simp; done)))); (try simp only [hb, go_sem])))
          refine hK10 _ ?_; clear hK10 K10
          refine AWP.seqk fun K11 hK11 => ?_
          refine AWP.regionAs [0, 1, 2, 3, 4, 5, 6, 7, 8, 9, 10, 11] [[], [0], [0, 1], [0, 1, 2], [0, 1, 2, 3], [0, 1, 2, 3], [0, 1, 2, 3, 4, 5], [0, 1, 2, 3], [0, 1, 2, 3, 7], [0, 1, 2, 3, 4, 5, 6, 7, 8], [0, 1, 2, 3, 4, 5, 6, 7, 8, 9], [0, 1, 2, 3, 4, 5, 6, 7, 8, 9, 10]] [] (by kernel_rfl) (by kernel_rfl) (by decide) rfl ?_
          simp only [go_sem] -- region 6
          repeat' (first | (refine ACall.one (omay_c _) (by kernel_rfl) rfl ?_; simp only [go_sem]) | (refine ACall.one (oplace_c _ _ (by first | omega | (simp only [List.length_take]; omega))) (by kernel_rfl) rfl ?_; simp only [go_sem]) | (refine AGuard.splitN (fun h => ?_) (fun h => ?_) <;> simp only [h, go_sem] <;> try simp only [dD] at h) | (refine AGuard.split (fun h => ?_) (fun h => ?_) <;> simp only [h, go_sem] <;> try simp only [dD] at h) | (refine AGet.haveM (by assumption) ?_; (try simp only [go_sem])) | (refine AGet.have' (by assumption) ?_; (try simp only [go_sem])) | ((first | refine AGet.nth ?_ (fun b hb => ?_) | refine AGet.nth1 ?_ (fun b hb => ?_) | with_reducible refine And.intro ?_ ?_); (focus ((first | omega | exact List.length_pos_iff.2 (by assumption) | (simp only [List.length_append, List.length_cons, List.length_nil, List.length_map, List.length_take, List.length_drop] at *; omega) | (rw [wrap64_id (by omega) (by omega)]; omega) | (simp; done)))); (try simp only [hb, go_sem])))
          all_goals (
            refine hK11 _ ?_; clear hK11 K11
            refine AWP.cond rfl (fun c26 => ?_) (fun c26 => ?_)
            · first | exact Bool.noConfusion c26 | (
                try simp only [dD] at c26
                refine AWP.seqk fun K12 hK12 => ?_
                refine AWP.region ?_
                simp only [go_sem] -- region 7
                repeat' (first | (refine AGet.haveM (by assumption) ?_; (try simp only [go_sem])) | (refine AGet.have' (by assumption) ?_; (try simp only [go_sem])) | ((first | refine AGet.nth ?_ (fun b hb => ?_) | refine AGet.nth1 ?_ (fun b hb => ?_) | with_reducible refine And.intro ?_ ?_); (focus ((first | omega | exact List.length_pos_iff.2 (by assumption) | (simp only [List.length_append, List.length_cons, List.length_nil, List.length_map, List.length_take, List.length_drop] at *; omega) | (rw [wrap64_id (by omega) (by omega)]; omega) | (simp; done)))); (try simp only [hb, go_sem])))
                refine hK12 _ ?_; clear hK12 K12
                refine AWP.ret ?_
                try simp only [go_sem]
                clear hK9 K9 hK5 K5
                first
                | exact ⟨[], .v _, rfl, rfl, by rw [right_no1 (by omega)], rfl⟩
                | exact ⟨[], .v _, rfl, rfl, by rw [right_no2 (by omega) (okAt_no1 hb (by assumption))], rfl⟩
                | exact ⟨[], .v _, rfl, rfl, by rw [right_no2 (by omega) (okAt_no2 hb (by assumption))], rfl⟩
                | exact ⟨[], .v _, rfl, rfl, by rw [right_yes h2 (by omega) h3], rfl⟩
                | skip)
            · first | exact Bool.noConfusion c26 | (
                try simp only [dD] at c26
                refine AWP.skip ?_
                refine hK9 _ ?_; clear hK9 K9
                refine AWP.region ?_
                simp only [go_sem] -- region 8
                repeat' (first | (refine AGet.haveM (by assumption) ?_; (try simp only [go_sem])) | (refine AGet.have' (by assumption) ?_; (try simp only [go_sem])) | ((first | refine AGet.nth ?_ (fun b hb => ?_) | refine AGet.nth1 ?_ (fun b hb => ?_) | with_reducible refine And.intro ?_ ?_); (focus ((first | omega | exact List.length_pos_iff.2 (by assumption) | (simp only [List.length_append, List.length_cons, List.length_nil, List.length_map, List.length_take, List.length_drop] at *; omega) | (rw [wrap64_id (by omega) (by omega)]; omega) | (simp; done)))); (try simp only [hb, go_sem])))
                clear hK5 K5
                refine ⟨i + 1, ?_, ?_, ?_⟩
                · (try simp only [go_sem]); (try rw [wrap64_id (by omega) (by omega)]); simp
                · exact ⟨by omega, by omega, rightGo_next h3 (okAt_yes hb (by assumption) (by assumption))⟩
                · omega)))
      · first | exact Bool.noConfusion c11 | (
          try simp only [dD] at c11
          refine AWP.exit ?_
          simp only [go_sem]
          clear hK8 K8
          refine hK5 _ ?_; clear hK5 K5
          refine AWP.seqk fun K13 hK13 => ?_
          refine AWP.region ?_
          simp only [go_sem] -- region 9
          repeat' (first | (refine AGet.haveM (by assumption) ?_; (try simp only [go_sem])) | (refine AGet.have' (by assumption) ?_; (try simp only [go_sem])) | ((first | refine AGet.nth ?_ (fun b hb => ?_) | refine AGet.nth1 ?_ (fun b hb => ?_) | with_reducible refine And.intro ?_ ?_); (focus ((first | omega | exact List.length_pos_iff.2 (by assumption) | (simp only [List.length_append, List.length_cons, List.length_nil, List.length_map, List.length_take, List.length_drop] at *; omega) | (rw [wrap64_id (by omega) (by omega)]; omega) | (simp; done)))); (try simp only [hb, go_sem])))
          refine hK13 _ ?_; clear hK13 K13
          refine AWP.ret ?_
          try simp only [go_sem]
          first
          | exact ⟨[], .v _, rfl, rfl, by rw [right_no1 (by omega)], rfl⟩
          | exact ⟨[], .v _, rfl, rfl, by rw [right_no2 (by omega) (okAt_no1 hb (by assumption))], rfl⟩
          | exact ⟨[], .v _, rfl, rfl, by rw [right_no2 (by omega) (okAt_no2 hb (by assumption))], rfl⟩
          | exact ⟨[], .v _, rfl, rfl, by rw [right_yes h2 (by omega) h3], rfl⟩
          | skip))


end Go.Proofs.YtajeeghgiilhiaaGreat
end
section
set_option linter.unusedVariables false
set_option linter.unusedSimpArgs false
namespace Go.Proofs.YtajeeghgiilhiaaGreat
open Go Go.Abs Go.RowKit Go.Bk

theorem res_ok {r : List Od × Int} {l : List Od} (h : r = (l, 0)) : ∃ x, AV.tup [odsV l, i64 0] = .tup [x, i64 r.2] ∧ (r.2 = 0 → x = odsV r.1) := ⟨odsV l, by rw [h], fun _ => by rw [h]⟩

end Go.Proofs.YtajeeghgiilhiaaGreat
end
section
set_option linter.unusedVariables false
set_option linter.unusedSimpArgs false
namespace Go.Proofs.YtajeeghgiilhiaaGreat
open Go Go.Abs Go.RowKit Go.Bk


end Go.Proofs.YtajeeghgiilhiaaGreat
end
section
set_option linter.unusedVariables false
set_option linter.unusedSimpArgs false
namespace Go.Proofs.YtajeeghgiilhiaaGreat
open Go Go.Abs Go.RowKit Go.Bk

end Go.Proofs.YtajeeghgiilhiaaGreat
end
section
set_option linter.unusedVariables false
set_option linter.unusedSimpArgs false
namespace Go.Proofs.YtajeeghgiilhiaaGreat
open Go Go.Abs Go.RowKit Go.Bk

abbrev bookV (b : Bk) (m : Nat) : AV := .agg [odsV b.orders, .mu 2 9 0 b.fills.length (b.fills.length + m), .sl (some 0) 1 (b.ids.map str), i64 b.clock, i64 b.bad]
abbrev rowV (b : Bk) (m : Nat) : List AV := b.fills.map dnV ++ spare 9 m
theorem dn_ren (σ : Nat → Option Nat) (l : List Dn) (m : Nat) : (l.map dnV ++ spare 9 m).map (AV.ren σ) = l.map dnV ++ spare 9 m := by
  rw [List.map_append, List.map_map]
  congr 1
  simp [spare, AV.ren, AV.ren2, AV.ren1]
end Go.Proofs.YtajeeghgiilhiaaGreat
end
section
set_option linter.unusedVariables false
set_option linter.unusedSimpArgs false
namespace Go.Proofs.YtajeeghgiilhiaaGreat
open Go Go.Abs Go.RowKit Go.Bk

abbrev Z0 : Option (List AV) := some [.agg [.nilS, .nilS, .nilS, i64 0, i64 0]]
theorem own_keep {b : Bk} {m : Nat} {x : Ex} {rest : List (Option (List AV))} : selOwn (Z0 :: some [bookV b m] :: some (rowV b m) :: some [exV x] :: some [exV x] :: some [exV x] :: rest) [0, 1, 2, 3, 4, 5] = [Z0, some [bookV b m], some (rowV b m), some [exV x], some [exV x], some [exV x]] := by
  show [Z0, some [bookV b m], some ((rowV b m).map _), some [exV x], some [exV x], some [exV x]] = _
  rw [dn_ren]
end Go.Proofs.YtajeeghgiilhiaaGreat
end
section
set_option linter.unusedVariables false
set_option linter.unusedSimpArgs false
namespace Go.Proofs.YtajeeghgiilhiaaGreat
open Go Go.Abs Go.RowKit Go.Bk

section
variable {b : Bk} {x : Ex} {n : Nat} {f : Dn} (e2 : atF b.fills x.ref = some n) (hb : b.fills[n]? = some f)
include e2 hb
variable (hl : f.live = true) (ht : ¬ 10 < x.time - f.time)
include hl ht
variable (h1 : f.ord = x.ord) (h2 : f.acc = x.acc) (h3 : f.sym = x.sym) (h4 : f.buy = x.buy)
include h1 h2 h3 h4
variable (h5 : ¬ x.kind = 7)
include h5
variable (h6 : ¬ f.qty < x.qty)
include h6
end
end Go.Proofs.YtajeeghgiilhiaaGreat
end
section
set_option linter.unusedVariables false
set_option linter.unusedSimpArgs false
namespace Go.Proofs.YtajeeghgiilhiaaGreat
open Go Go.Abs Go.RowKit Go.Bk

section
variable {b : Bk} {x : Ex} (h0 : ¬ x.time < b.clock)
include h0
variable (hk1 : ¬ x.kind = 1)
include hk1
variable (hk7 : ¬ x.kind = 7) (hk8 : ¬ x.kind = 8)
include hk7 hk8
variable {id : Bs} (hid : (if x.kind = 4 then x.ref else x.ord) = id)
include hid
variable (g1 : (findF b.orders id).2 = true) (g2 : (findF b.orders id).1.opn = true)
include g1 g2
variable (g3 : (findF b.orders id).1.acc = x.acc) (g4 : (findF b.orders id).1.sym = x.sym) (g5 : (findF b.orders id).1.buy = x.buy)
include g3 g4 g5
variable (hk2 : ¬ x.kind = 2)
include hk2
variable (hk4 : ¬ x.kind = 4)
include hk4
end
end Go.Proofs.YtajeeghgiilhiaaGreat
end
section
set_option linter.unusedVariables false
set_option linter.unusedSimpArgs false
namespace Go.Proofs.YtajeeghgiilhiaaGreat
open Go Go.Abs Go.RowKit Go.Bk

end Go.Proofs.YtajeeghgiilhiaaGreat
end
section
set_option linter.unusedVariables false
set_option linter.unusedSimpArgs false
namespace Go.Proofs.YtajeeghgiilhiaaGreat
open Go Go.Abs Go.RowKit Go.Bk

end Go.Proofs.YtajeeghgiilhiaaGreat
end
section
/- Values of books, of lists of executions; small facts. -/
set_option linter.unusedVariables false
set_option linter.unusedSimpArgs false
namespace Go.Proofs.YtajeeghgiilhiaaGreat
open Go Go.Abs Go.RowKit Go.Bk
abbrev bkV (b : Bk) : AV := .agg [odsV b.orders, dnsV b.fills, .sl none 1 (b.ids.map str), i64 b.clock, i64 b.bad]
theorem eq_no1 {α : Type} [DecidableEq α] {a b : List α} (h : ¬ a.length = b.length) : decide (a = b) = false := decide_eq_false fun e => h (by rw [e])
theorem eq_no2 {α : Type} [DecidableEq α] {a b : List α} {i : Nat} {x y : α} (h1 : a[i]? = some x) (h2 : b[i]? = some y) (h : x ≠ y) : decide (a = b) = false := decide_eq_false fun e => h (by rw [e, h2, Option.some.injEq] at h1; exact h1.symm)
theorem eq_yes {α : Type} [DecidableEq α] {a b : List α} {i : Nat} (h0 : a.length = b.length) (hi : a.length ≤ i) (h : a.take i = b.take i) : decide (a = b) = true := by
  rw [List.take_of_length_le hi, List.take_of_length_le (by omega)] at h
  exact decide_eq_true h
theorem eq_next {α : Type} {a b : List α} {i : Nat} {x y : α} (h1 : a[i]? = some x) (h2 : b[i]? = some y) (h : x = y) (h3 : a.take i = b.take i) : a.take (i + 1) = b.take (i + 1) := by rw [take_next h1, take_next h2, h3, h]
theorem od_eq {x y : Od} (h : x.id = y.id ∧ x.acc = y.acc ∧ x.sym = y.sym ∧ x.buy = y.buy ∧ x.qty = y.qty ∧ x.price = y.price ∧ x.done = y.done ∧ x.opn = y.opn) : x = y := by
  obtain ⟨a, b, c, d, e, f, g, i⟩ := x
  obtain ⟨h1, h2, h3, h4, h5, h6, h7, h8⟩ := h
  dsimp only at *
  subst h1; subst h2; subst h3; subst h4; subst h5; subst h6; subst h7; subst h8; rfl
theorem od_ne {x y : Od} (h : x.id = y.id → x.acc = y.acc → x.sym = y.sym → x.buy = y.buy → x.qty = y.qty → x.price = y.price → x.done = y.done → ¬ x.opn = y.opn) : x ≠ y := by
  rintro rfl; exact h rfl rfl rfl rfl rfl rfl rfl rfl
theorem dn_eq {x y : Dn} (h : x.id = y.id ∧ x.ord = y.ord ∧ x.acc = y.acc ∧ x.sym = y.sym ∧ x.buy = y.buy ∧ x.qty = y.qty ∧ x.price = y.price ∧ x.time = y.time ∧ x.live = y.live) : x = y := by
  obtain ⟨a, b, c, d, e, f, g, i, j⟩ := x
  obtain ⟨h1, h2, h3, h4, h5, h6, h7, h8, h9⟩ := h
  dsimp only at *
  subst h1; subst h2; subst h3; subst h4; subst h5; subst h6; subst h7; subst h8; subst h9; rfl
theorem dn_ne {x y : Dn} (h : x.id = y.id → x.ord = y.ord → x.acc = y.acc → x.sym = y.sym → x.buy = y.buy → x.qty = y.qty → x.price = y.price → x.time = y.time → ¬ x.live = y.live) : x ≠ y := by
  rintro rfl; exact h rfl rfl rfl rfl rfl rfl rfl rfl rfl
theorem same_b (p q : Bk) : decide (p = q) = (decide (p.orders = q.orders) && decide (p.fills = q.fills) && decide (p.ids = q.ids) && decide (p.clock = q.clock) && decide (p.bad = q.bad)) := by
  obtain ⟨a, b, c, d, e⟩ := p
  obtain ⟨a', b', c', d', e'⟩ := q
  simp [Bool.and_assoc]
end Go.Proofs.YtajeeghgiilhiaaGreat
end
