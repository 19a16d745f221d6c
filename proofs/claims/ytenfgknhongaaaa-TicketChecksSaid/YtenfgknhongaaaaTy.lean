/- What the logic has to know of the types of this translation: closed facts, printed by a program of this claim. No condition. -/
import Derived.Test.YtenfgknhongaaaaProg
import Derived.Test.YtenfgknhongaaaaHl1
import Derived.Test.YtenfgknhongaaaaHlE
import Derived.KernelRfl
import Derived.Attr
set_option linter.unusedVariables false
namespace Go.Proofs.Ytenfgknhongaaaa.Ty
open Go Go.Proofs Go.Proofs.Ytenfgknhongaaaa.Hl
theorem ti1 : ti Try.prog 1 = some ⟨.fn, 1, 8, [.nilFunc]⟩ := by kernel_rfl
theorem ti2 : ti Try.prog 2 = some ⟨.int .i64, 1, 8, [.int .i64 0]⟩ := by kernel_rfl
theorem ti3 : ti Try.prog 3 = some ⟨.int .i64, 1, 8, [.int .i64 0]⟩ := by kernel_rfl
theorem ti4 : ti Try.prog 4 = some ⟨.bool, 1, 1, [.bool false]⟩ := by kernel_rfl
theorem ti5 : ti Try.prog 5 = some ⟨.int .u8, 1, 1, [.int .u8 0]⟩ := by kernel_rfl
theorem ti9 : ti Try.prog 9 = some ⟨.str, 1, 16, [.string { data := #[] }]⟩ := by kernel_rfl
theorem ti12 : ti Try.prog 12 = some ⟨.int .u64, 1, 8, [.int .u64 0]⟩ := by kernel_rfl
theorem ti13 : ti Try.prog 13 = some ⟨.st [(0, 9, true), (1, 12, true)], 2, 24, [.string { data := #[] }, .int .u64 0]⟩ := by kernel_rfl
theorem ti20 : ti Try.prog 20 = some ⟨.iface, 1, 16, [.nilIface]⟩ := by kernel_rfl
theorem ti21 : ti Try.prog 21 = some ⟨.int .i32, 1, 4, [.int .i32 0]⟩ := by kernel_rfl
theorem ti22 : ti Try.prog 22 = some ⟨.slc 5, 1, 24, [.slice none 0 0]⟩ := by kernel_rfl
theorem ti23 : ti Try.prog 23 = some ⟨.st [(0, 9, true), (1, 9, true), (2, 9, true)], 3, 48, [.string { data := #[] }, .string { data := #[] }, .string { data := #[] }]⟩ := by kernel_rfl
theorem ti24 : ti Try.prog 24 = some ⟨.st [(0, 9, true), (1, 9, true), (2, 9, true)], 3, 48, [.string { data := #[] }, .string { data := #[] }, .string { data := #[] }]⟩ := by kernel_rfl
theorem st24 : stOk Try.prog 24 = true := by kernel_rfl
theorem eq24 : eqOk Try.prog 24 = true := by kernel_rfl
theorem fi24_0 : fi Try.prog 24 0 = some ⟨0, 1, false⟩ := by kernel_rfl
theorem fi24_1 : fi Try.prog 24 1 = some ⟨1, 1, false⟩ := by kernel_rfl
theorem fi24_2 : fi Try.prog 24 2 = some ⟨2, 1, false⟩ := by kernel_rfl
theorem ti25 : ti Try.prog 25 = some ⟨.fn, 1, 8, [.nilFunc]⟩ := by kernel_rfl
theorem ti26 : ti Try.prog 26 = some ⟨.fn, 1, 8, [.nilFunc]⟩ := by kernel_rfl
theorem ti27 : ti Try.prog 27 = some ⟨.fn, 1, 8, [.nilFunc]⟩ := by kernel_rfl
theorem ti28 : ti Try.prog 28 = some ⟨.fn, 1, 8, [.nilFunc]⟩ := by kernel_rfl
theorem ti29 : ti Try.prog 29 = some ⟨.fn, 1, 8, [.nilFunc]⟩ := by kernel_rfl
theorem ti30 : ti Try.prog 30 = some ⟨.fn, 1, 8, [.nilFunc]⟩ := by kernel_rfl
theorem ti31 : ti Try.prog 31 = some ⟨.fn, 1, 8, [.nilFunc]⟩ := by kernel_rfl
theorem ti32 : ti Try.prog 32 = some ⟨.int .u32, 1, 4, [.int .u32 0]⟩ := by kernel_rfl
theorem ti33 : ti Try.prog 33 = some ⟨.int .i64, 1, 8, [.int .i64 0]⟩ := by kernel_rfl
theorem ti35 : ti Try.prog 35 = some ⟨.fn, 1, 8, [.nilFunc]⟩ := by kernel_rfl
theorem ti36 : ti Try.prog 36 = some ⟨.fn, 1, 8, [.nilFunc]⟩ := by kernel_rfl
theorem ti37 : ti Try.prog 37 = some ⟨.st [(0, 24, true), (3, 3, true), (4, 3, true), (5, 3, true)], 6, 72, [.string { data := #[] }, .string { data := #[] }, .string { data := #[] }, .int .i64 0, .int .i64 0, .int .i64 0]⟩ := by kernel_rfl
theorem ti38 : ti Try.prog 38 = some ⟨.st [(0, 24, true), (3, 3, true), (4, 3, true), (5, 3, true)], 6, 72, [.string { data := #[] }, .string { data := #[] }, .string { data := #[] }, .int .i64 0, .int .i64 0, .int .i64 0]⟩ := by kernel_rfl
theorem st38 : stOk Try.prog 38 = true := by kernel_rfl
theorem eq38 : eqOk Try.prog 38 = true := by kernel_rfl
theorem fi38_0 : fi Try.prog 38 0 = some ⟨0, 3, true⟩ := by kernel_rfl
theorem fi38_1 : fi Try.prog 38 1 = some ⟨3, 1, false⟩ := by kernel_rfl
theorem fi38_2 : fi Try.prog 38 2 = some ⟨4, 1, false⟩ := by kernel_rfl
theorem fi38_3 : fi Try.prog 38 3 = some ⟨5, 1, false⟩ := by kernel_rfl
theorem ti39 : ti Try.prog 39 = some ⟨.fn, 1, 8, [.nilFunc]⟩ := by kernel_rfl
theorem ti40 : ti Try.prog 40 = some ⟨.fn, 1, 8, [.nilFunc]⟩ := by kernel_rfl
theorem ti41 : ti Try.prog 41 = some ⟨.slc 3, 1, 24, [.slice none 0 0]⟩ := by kernel_rfl
theorem ti42 : ti Try.prog 42 = some ⟨.fn, 1, 8, [.nilFunc]⟩ := by kernel_rfl
theorem ti43 : ti Try.prog 43 = some ⟨.fn, 1, 8, [.nilFunc]⟩ := by kernel_rfl
theorem ti44 : ti Try.prog 44 = some ⟨.int .u16, 1, 2, [.int .u16 0]⟩ := by kernel_rfl
theorem ti45 : ti Try.prog 45 = some ⟨.fn, 1, 8, [.nilFunc]⟩ := by kernel_rfl
theorem ti46 : ti Try.prog 46 = some ⟨.fn, 1, 8, [.nilFunc]⟩ := by kernel_rfl
theorem ti47 : ti Try.prog 47 = some ⟨.slc 22, 1, 24, [.slice none 0 0]⟩ := by kernel_rfl
theorem ti49 : ti Try.prog 49 = some ⟨.fn, 1, 8, [.nilFunc]⟩ := by kernel_rfl
theorem ti51 : ti Try.prog 51 = some ⟨.fn, 1, 8, [.nilFunc]⟩ := by kernel_rfl
theorem ti52 : ti Try.prog 52 = some ⟨.fn, 1, 8, [.nilFunc]⟩ := by kernel_rfl
theorem ti53 : ti Try.prog 53 = some ⟨.slc 57, 1, 24, [.slice none 0 0]⟩ := by kernel_rfl
theorem ti54 : ti Try.prog 54 = some ⟨.int .u64, 1, 8, [.int .u64 0]⟩ := by kernel_rfl
theorem ti55 : ti Try.prog 55 = some ⟨.int .u64, 1, 8, [.int .u64 0]⟩ := by kernel_rfl
theorem ti56 : ti Try.prog 56 = some ⟨.st [(0, 24, true), (3, 3, true), (4, 55, true)], 5, 64, [.string { data := #[] }, .string { data := #[] }, .string { data := #[] }, .int .i64 0, .int .u64 0]⟩ := by kernel_rfl
theorem ti57 : ti Try.prog 57 = some ⟨.st [(0, 24, true), (3, 3, true), (4, 55, true)], 5, 64, [.string { data := #[] }, .string { data := #[] }, .string { data := #[] }, .int .i64 0, .int .u64 0]⟩ := by kernel_rfl
theorem st57 : stOk Try.prog 57 = true := by kernel_rfl
theorem eq57 : eqOk Try.prog 57 = true := by kernel_rfl
theorem fi57_0 : fi Try.prog 57 0 = some ⟨0, 3, true⟩ := by kernel_rfl
theorem fi57_1 : fi Try.prog 57 1 = some ⟨3, 1, false⟩ := by kernel_rfl
theorem fi57_2 : fi Try.prog 57 2 = some ⟨4, 1, false⟩ := by kernel_rfl
theorem ti58 : ti Try.prog 58 = some ⟨.fn, 1, 8, [.nilFunc]⟩ := by kernel_rfl
theorem ti59 : ti Try.prog 59 = some ⟨.fn, 1, 8, [.nilFunc]⟩ := by kernel_rfl
theorem ti60 : ti Try.prog 60 = some ⟨.fn, 1, 8, [.nilFunc]⟩ := by kernel_rfl
theorem ti61 : ti Try.prog 61 = some ⟨.slc 53, 1, 24, [.slice none 0 0]⟩ := by kernel_rfl
theorem ti62 : ti Try.prog 62 = some ⟨.slc 24, 1, 24, [.slice none 0 0]⟩ := by kernel_rfl
theorem ti64 : ti Try.prog 64 = some ⟨.fn, 1, 8, [.nilFunc]⟩ := by kernel_rfl
theorem ti65 : ti Try.prog 65 = some ⟨.fn, 1, 8, [.nilFunc]⟩ := by kernel_rfl
theorem ti67 : ti Try.prog 67 = some ⟨.fn, 1, 8, [.nilFunc]⟩ := by kernel_rfl
theorem ti68 : ti Try.prog 68 = some ⟨.fn, 1, 8, [.nilFunc]⟩ := by kernel_rfl
theorem ti69 : ti Try.prog 69 = some ⟨.fn, 1, 8, [.nilFunc]⟩ := by kernel_rfl
theorem ti70 : ti Try.prog 70 = some ⟨.fn, 1, 8, [.nilFunc]⟩ := by kernel_rfl
theorem ti71 : ti Try.prog 71 = some ⟨.st [(0, 4, true), (1, 24, true), (4, 3, true), (5, 55, true), (6, 3, true), (7, 3, true), (8, 9, true), (9, 9, true)], 10, 120, [.bool false, .string { data := #[] }, .string { data := #[] }, .string { data := #[] }, .int .i64 0, .int .u64 0, .int .i64 0, .int .i64 0, .string { data := #[] }, .string { data := #[] }]⟩ := by kernel_rfl
theorem ti72 : ti Try.prog 72 = some ⟨.st [(0, 4, true), (1, 24, true), (4, 3, true), (5, 55, true), (6, 3, true), (7, 3, true), (8, 9, true), (9, 9, true)], 10, 120, [.bool false, .string { data := #[] }, .string { data := #[] }, .string { data := #[] }, .int .i64 0, .int .u64 0, .int .i64 0, .int .i64 0, .string { data := #[] }, .string { data := #[] }]⟩ := by kernel_rfl
theorem st72 : stOk Try.prog 72 = true := by kernel_rfl
theorem eq72 : eqOk Try.prog 72 = true := by kernel_rfl
theorem fi72_0 : fi Try.prog 72 0 = some ⟨0, 1, false⟩ := by kernel_rfl
theorem fi72_1 : fi Try.prog 72 1 = some ⟨1, 3, true⟩ := by kernel_rfl
theorem fi72_2 : fi Try.prog 72 2 = some ⟨4, 1, false⟩ := by kernel_rfl
theorem fi72_3 : fi Try.prog 72 3 = some ⟨5, 1, false⟩ := by kernel_rfl
theorem fi72_4 : fi Try.prog 72 4 = some ⟨6, 1, false⟩ := by kernel_rfl
theorem fi72_5 : fi Try.prog 72 5 = some ⟨7, 1, false⟩ := by kernel_rfl
theorem fi72_6 : fi Try.prog 72 6 = some ⟨8, 1, false⟩ := by kernel_rfl
theorem fi72_7 : fi Try.prog 72 7 = some ⟨9, 1, false⟩ := by kernel_rfl
theorem ti73 : ti Try.prog 73 = some ⟨.fn, 1, 8, [.nilFunc]⟩ := by kernel_rfl
theorem ti74 : ti Try.prog 74 = some ⟨.fn, 1, 8, [.nilFunc]⟩ := by kernel_rfl
theorem ti75 : ti Try.prog 75 = some ⟨.fn, 1, 8, [.nilFunc]⟩ := by kernel_rfl
theorem ti76 : ti Try.prog 76 = some ⟨.fn, 1, 8, [.nilFunc]⟩ := by kernel_rfl
theorem ti77 : ti Try.prog 77 = some ⟨.fn, 1, 8, [.nilFunc]⟩ := by kernel_rfl
theorem ti78 : ti Try.prog 78 = some ⟨.fn, 1, 8, [.nilFunc]⟩ := by kernel_rfl
theorem ti79 : ti Try.prog 79 = some ⟨.fn, 1, 8, [.nilFunc]⟩ := by kernel_rfl
theorem ti80 : ti Try.prog 80 = some ⟨.slc 88, 1, 24, [.slice none 0 0]⟩ := by kernel_rfl
theorem ti81 : ti Try.prog 81 = some ⟨.st [(0, 24, true), (3, 80, true)], 4, 72, [.string { data := #[] }, .string { data := #[] }, .string { data := #[] }, .slice none 0 0]⟩ := by kernel_rfl
theorem ti82 : ti Try.prog 82 = some ⟨.st [(0, 24, true), (3, 80, true)], 4, 72, [.string { data := #[] }, .string { data := #[] }, .string { data := #[] }, .slice none 0 0]⟩ := by kernel_rfl
theorem st82 : stOk Try.prog 82 = true := by kernel_rfl
theorem fi82_0 : fi Try.prog 82 0 = some ⟨0, 3, true⟩ := by kernel_rfl
theorem fi82_1 : fi Try.prog 82 1 = some ⟨3, 1, false⟩ := by kernel_rfl
theorem ti83 : ti Try.prog 83 = some ⟨.fn, 1, 8, [.nilFunc]⟩ := by kernel_rfl
theorem ti84 : ti Try.prog 84 = some ⟨.fn, 1, 8, [.nilFunc]⟩ := by kernel_rfl
theorem ti85 : ti Try.prog 85 = some ⟨.fn, 1, 8, [.nilFunc]⟩ := by kernel_rfl
theorem ti86 : ti Try.prog 86 = some ⟨.fn, 1, 8, [.nilFunc]⟩ := by kernel_rfl
theorem ti87 : ti Try.prog 87 = some ⟨.st [(0, 24, true), (3, 55, true), (4, 3, true), (5, 3, true), (6, 3, true), (7, 22, true)], 8, 104, [.string { data := #[] }, .string { data := #[] }, .string { data := #[] }, .int .u64 0, .int .i64 0, .int .i64 0, .int .i64 0, .slice none 0 0]⟩ := by kernel_rfl
theorem ti88 : ti Try.prog 88 = some ⟨.st [(0, 24, true), (3, 55, true), (4, 3, true), (5, 3, true), (6, 3, true), (7, 22, true)], 8, 104, [.string { data := #[] }, .string { data := #[] }, .string { data := #[] }, .int .u64 0, .int .i64 0, .int .i64 0, .int .i64 0, .slice none 0 0]⟩ := by kernel_rfl
theorem st88 : stOk Try.prog 88 = true := by kernel_rfl
theorem fi88_0 : fi Try.prog 88 0 = some ⟨0, 3, true⟩ := by kernel_rfl
theorem fi88_1 : fi Try.prog 88 1 = some ⟨3, 1, false⟩ := by kernel_rfl
theorem fi88_2 : fi Try.prog 88 2 = some ⟨4, 1, false⟩ := by kernel_rfl
theorem fi88_3 : fi Try.prog 88 3 = some ⟨5, 1, false⟩ := by kernel_rfl
theorem fi88_4 : fi Try.prog 88 4 = some ⟨6, 1, false⟩ := by kernel_rfl
theorem fi88_5 : fi Try.prog 88 5 = some ⟨7, 1, false⟩ := by kernel_rfl
theorem ti90 : ti Try.prog 90 = some ⟨.fn, 1, 8, [.nilFunc]⟩ := by kernel_rfl
theorem ti91 : ti Try.prog 91 = some ⟨.fn, 1, 8, [.nilFunc]⟩ := by kernel_rfl
theorem ti92 : ti Try.prog 92 = some ⟨.fn, 1, 8, [.nilFunc]⟩ := by kernel_rfl
theorem ti93 : ti Try.prog 93 = some ⟨.slc 82, 1, 24, [.slice none 0 0]⟩ := by kernel_rfl
theorem ti94 : ti Try.prog 94 = some ⟨.fn, 1, 8, [.nilFunc]⟩ := by kernel_rfl
theorem ti95 : ti Try.prog 95 = some ⟨.ptr 97, 1, 8, [.pointer none]⟩ := by kernel_rfl
theorem ti96 : ti Try.prog 96 = some ⟨.st [(0, 22, true), (1, 3, true)], 2, 32, [.slice none 0 0, .int .i64 0]⟩ := by kernel_rfl
theorem ti97 : ti Try.prog 97 = some ⟨.st [(0, 22, true), (1, 3, true)], 2, 32, [.slice none 0 0, .int .i64 0]⟩ := by kernel_rfl
theorem st97 : stOk Try.prog 97 = true := by kernel_rfl
theorem fi97_0 : fi Try.prog 97 0 = some ⟨0, 1, false⟩ := by kernel_rfl
theorem fi97_1 : fi Try.prog 97 1 = some ⟨1, 1, false⟩ := by kernel_rfl
theorem ti98 : ti Try.prog 98 = some ⟨.fn, 1, 8, [.nilFunc]⟩ := by kernel_rfl
theorem ti99 : ti Try.prog 99 = some ⟨.fn, 1, 8, [.nilFunc]⟩ := by kernel_rfl
theorem ti101 : ti Try.prog 101 = some ⟨.fn, 1, 8, [.nilFunc]⟩ := by kernel_rfl
theorem ti102 : ti Try.prog 102 = some ⟨.fn, 1, 8, [.nilFunc]⟩ := by kernel_rfl
theorem ti103 : ti Try.prog 103 = some ⟨.fn, 1, 8, [.nilFunc]⟩ := by kernel_rfl
theorem ti104 : ti Try.prog 104 = some ⟨.slc 38, 1, 24, [.slice none 0 0]⟩ := by kernel_rfl
theorem ti106 : ti Try.prog 106 = some ⟨.fn, 1, 8, [.nilFunc]⟩ := by kernel_rfl
theorem ti108 : ti Try.prog 108 = some ⟨.fn, 1, 8, [.nilFunc]⟩ := by kernel_rfl
theorem ti109 : ti Try.prog 109 = some ⟨.fn, 1, 8, [.nilFunc]⟩ := by kernel_rfl
theorem ti110 : ti Try.prog 110 = some ⟨.fn, 1, 8, [.nilFunc]⟩ := by kernel_rfl
theorem ti111 : ti Try.prog 111 = some ⟨.fn, 1, 8, [.nilFunc]⟩ := by kernel_rfl
theorem ti112 : ti Try.prog 112 = some ⟨.fn, 1, 8, [.nilFunc]⟩ := by kernel_rfl
theorem ti113 : ti Try.prog 113 = some ⟨.fn, 1, 8, [.nilFunc]⟩ := by kernel_rfl
theorem ti114 : ti Try.prog 114 = some ⟨.fn, 1, 8, [.nilFunc]⟩ := by kernel_rfl
theorem ti115 : ti Try.prog 115 = some ⟨.fn, 1, 8, [.nilFunc]⟩ := by kernel_rfl
theorem ti116 : ti Try.prog 116 = some ⟨.fn, 1, 8, [.nilFunc]⟩ := by kernel_rfl
theorem ti117 : ti Try.prog 117 = some ⟨.slc 9, 1, 24, [.slice none 0 0]⟩ := by kernel_rfl
theorem ti118 : ti Try.prog 118 = some ⟨.fn, 1, 8, [.nilFunc]⟩ := by kernel_rfl
theorem ti119 : ti Try.prog 119 = some ⟨.int .u64, 1, 8, [.int .u64 0]⟩ := by kernel_rfl
theorem ti120 : ti Try.prog 120 = some ⟨.fn, 1, 8, [.nilFunc]⟩ := by kernel_rfl
theorem ti121 : ti Try.prog 121 = some ⟨.arr 3 9, 3, 48, [.string { data := #[] }, .string { data := #[] }, .string { data := #[] }]⟩ := by kernel_rfl
theorem ti122 : ti Try.prog 122 = some ⟨.fn, 1, 8, [.nilFunc]⟩ := by kernel_rfl
theorem ti123 : ti Try.prog 123 = some ⟨.fn, 1, 8, [.nilFunc]⟩ := by kernel_rfl
theorem ti124 : ti Try.prog 124 = some ⟨.fn, 1, 8, [.nilFunc]⟩ := by kernel_rfl
theorem ti125 : ti Try.prog 125 = some ⟨.fn, 1, 8, [.nilFunc]⟩ := by kernel_rfl
theorem ti126 : ti Try.prog 126 = some ⟨.fn, 1, 8, [.nilFunc]⟩ := by kernel_rfl
theorem ti127 : ti Try.prog 127 = some ⟨.fn, 1, 8, [.nilFunc]⟩ := by kernel_rfl
theorem ti128 : ti Try.prog 128 = some ⟨.fn, 1, 8, [.nilFunc]⟩ := by kernel_rfl
theorem ti129 : ti Try.prog 129 = some ⟨.fn, 1, 8, [.nilFunc]⟩ := by kernel_rfl
theorem ti130 : ti Try.prog 130 = some ⟨.fn, 1, 8, [.nilFunc]⟩ := by kernel_rfl
theorem ti131 : ti Try.prog 131 = some ⟨.fn, 1, 8, [.nilFunc]⟩ := by kernel_rfl
theorem ti132 : ti Try.prog 132 = some ⟨.fn, 1, 8, [.nilFunc]⟩ := by kernel_rfl
theorem ti133 : ti Try.prog 133 = some ⟨.fn, 1, 8, [.nilFunc]⟩ := by kernel_rfl
theorem ti134 : ti Try.prog 134 = some ⟨.fn, 1, 8, [.nilFunc]⟩ := by kernel_rfl
theorem ti135 : ti Try.prog 135 = some ⟨.fn, 1, 8, [.nilFunc]⟩ := by kernel_rfl
theorem ti136 : ti Try.prog 136 = some ⟨.ptr 155, 1, 8, [.pointer none]⟩ := by kernel_rfl
theorem ti137 : ti Try.prog 137 = some ⟨.fn, 1, 8, [.nilFunc]⟩ := by kernel_rfl
theorem ti138 : ti Try.prog 138 = some ⟨.fn, 1, 8, [.nilFunc]⟩ := by kernel_rfl
theorem ti139 : ti Try.prog 139 = some ⟨.fn, 1, 8, [.nilFunc]⟩ := by kernel_rfl
theorem ti140 : ti Try.prog 140 = some ⟨.fn, 1, 8, [.nilFunc]⟩ := by kernel_rfl
theorem ti141 : ti Try.prog 141 = some ⟨.fn, 1, 8, [.nilFunc]⟩ := by kernel_rfl
theorem ti143 : ti Try.prog 143 = some ⟨.fn, 1, 8, [.nilFunc]⟩ := by kernel_rfl
theorem ti144 : ti Try.prog 144 = some ⟨.fn, 1, 8, [.nilFunc]⟩ := by kernel_rfl
theorem ti145 : ti Try.prog 145 = some ⟨.map 147 4, 1, 8, [.map none]⟩ := by kernel_rfl
theorem ti146 : ti Try.prog 146 = some ⟨.st [(0, 24, true), (3, 3, true)], 4, 56, [.string { data := #[] }, .string { data := #[] }, .string { data := #[] }, .int .i64 0]⟩ := by kernel_rfl
theorem ti147 : ti Try.prog 147 = some ⟨.st [(0, 24, true), (3, 3, true)], 4, 56, [.string { data := #[] }, .string { data := #[] }, .string { data := #[] }, .int .i64 0]⟩ := by kernel_rfl
theorem st147 : stOk Try.prog 147 = true := by kernel_rfl
theorem eq147 : eqOk Try.prog 147 = true := by kernel_rfl
theorem fi147_0 : fi Try.prog 147 0 = some ⟨0, 3, true⟩ := by kernel_rfl
theorem fi147_1 : fi Try.prog 147 1 = some ⟨3, 1, false⟩ := by kernel_rfl
theorem ti148 : ti Try.prog 148 = some ⟨.fn, 1, 8, [.nilFunc]⟩ := by kernel_rfl
theorem ti149 : ti Try.prog 149 = some ⟨.fn, 1, 8, [.nilFunc]⟩ := by kernel_rfl
theorem ti151 : ti Try.prog 151 = some ⟨.fn, 1, 8, [.nilFunc]⟩ := by kernel_rfl
theorem ti152 : ti Try.prog 152 = some ⟨.fn, 1, 8, [.nilFunc]⟩ := by kernel_rfl
theorem ti153 : ti Try.prog 153 = some ⟨.fn, 1, 8, [.nilFunc]⟩ := by kernel_rfl
theorem ti154 : ti Try.prog 154 = some ⟨.st [(0, 22, true), (1, 3, true), (2, 4, true), (3, 4, true)], 4, 40, [.slice none 0 0, .int .i64 0, .bool false, .bool false]⟩ := by kernel_rfl
theorem ti155 : ti Try.prog 155 = some ⟨.st [(0, 22, true), (1, 3, true), (2, 4, true), (3, 4, true)], 4, 40, [.slice none 0 0, .int .i64 0, .bool false, .bool false]⟩ := by kernel_rfl
theorem st155 : stOk Try.prog 155 = true := by kernel_rfl
theorem fi155_0 : fi Try.prog 155 0 = some ⟨0, 1, false⟩ := by kernel_rfl
theorem fi155_1 : fi Try.prog 155 1 = some ⟨1, 1, false⟩ := by kernel_rfl
theorem fi155_2 : fi Try.prog 155 2 = some ⟨2, 1, false⟩ := by kernel_rfl
theorem fi155_3 : fi Try.prog 155 3 = some ⟨3, 1, false⟩ := by kernel_rfl
theorem ti156 : ti Try.prog 156 = some ⟨.fn, 1, 8, [.nilFunc]⟩ := by kernel_rfl
theorem ti157 : ti Try.prog 157 = some ⟨.fn, 1, 8, [.nilFunc]⟩ := by kernel_rfl
theorem ti158 : ti Try.prog 158 = some ⟨.fn, 1, 8, [.nilFunc]⟩ := by kernel_rfl
theorem ti159 : ti Try.prog 159 = some ⟨.fn, 1, 8, [.nilFunc]⟩ := by kernel_rfl
theorem ti160 : ti Try.prog 160 = some ⟨.fn, 1, 8, [.nilFunc]⟩ := by kernel_rfl
theorem ti161 : ti Try.prog 161 = some ⟨.fn, 1, 8, [.nilFunc]⟩ := by kernel_rfl
theorem ti169 : ti Try.prog 169 = some ⟨.fn, 1, 8, [.nilFunc]⟩ := by kernel_rfl
theorem ti170 : ti Try.prog 170 = some ⟨.ptr 5, 1, 8, [.pointer none]⟩ := by kernel_rfl
attribute [go_sem] ti1 ti2 ti3 ti4 ti5 ti9 ti12 ti13 ti20 ti21 ti22 ti23 ti24 st24 eq24 fi24_0 fi24_1 fi24_2 ti25 ti26 ti27 ti28 ti29 ti30 ti31 ti32 ti33 ti35 ti36 ti37 ti38 st38 eq38 fi38_0 fi38_1 fi38_2 fi38_3 ti39 ti40 ti41 ti42 ti43 ti44 ti45 ti46 ti47 ti49 ti51 ti52 ti53 ti54 ti55 ti56 ti57 st57 eq57 fi57_0 fi57_1 fi57_2 ti58 ti59 ti60 ti61 ti62 ti64 ti65 ti67 ti68 ti69 ti70 ti71 ti72 st72 eq72 fi72_0 fi72_1 fi72_2 fi72_3 fi72_4 fi72_5 fi72_6 fi72_7 ti73 ti74 ti75 ti76 ti77 ti78 ti79 ti80 ti81 ti82 st82 fi82_0 fi82_1 ti83 ti84 ti85 ti86 ti87 ti88 st88 fi88_0 fi88_1 fi88_2 fi88_3 fi88_4 fi88_5 ti90 ti91 ti92 ti93 ti94 ti95 ti96 ti97 st97 fi97_0 fi97_1 ti98 ti99 ti101 ti102 ti103 ti104 ti106 ti108 ti109 ti110 ti111 ti112 ti113 ti114 ti115 ti116 ti117 ti118 ti119 ti120 ti121 ti122 ti123 ti124 ti125 ti126 ti127 ti128 ti129 ti130 ti131 ti132 ti133 ti134 ti135 ti136 ti137 ti138 ti139 ti140 ti141 ti143 ti144 ti145 ti146 ti147 st147 eq147 fi147_0 fi147_1 ti148 ti149 ti151 ti152 ti153 ti154 ti155 st155 fi155_0 fi155_1 fi155_2 fi155_3 ti156 ti157 ti158 ti159 ti160 ti161 ti169 ti170
theorem mixed : Try.prog.follows .mixedOrders = true := by kernel_rfl
end Go.Proofs.Ytenfgknhongaaaa.Ty
