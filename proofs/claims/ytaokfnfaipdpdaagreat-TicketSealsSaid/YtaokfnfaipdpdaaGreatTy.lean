/- What the logic has to know of the types of this translation: closed facts, printed by a program of this claim. No condition. -/
import Derived.Test.YtaokfnfaipdpdaaGreatProg
import Derived.Test.YtaokfnfaipdpdaaGreatHlB
import Derived.KernelRfl
import Derived.Attr
set_option linter.unusedVariables false
namespace Go.Proofs.YtaokfnfaipdpdaaGreat.Ty
open Go Go.Proofs Go.Proofs.YtaokfnfaipdpdaaGreat.Hl
theorem ti1 : ti Tryz.prog 1 = some ⟨.fn, 1, 8, [.nilFunc]⟩ := by kernel_rfl
theorem ti2 : ti Tryz.prog 2 = some ⟨.int .i64, 1, 8, [.int .i64 0]⟩ := by kernel_rfl
theorem ti3 : ti Tryz.prog 3 = some ⟨.int .i64, 1, 8, [.int .i64 0]⟩ := by kernel_rfl
theorem ti4 : ti Tryz.prog 4 = some ⟨.bool, 1, 1, [.bool false]⟩ := by kernel_rfl
theorem ti5 : ti Tryz.prog 5 = some ⟨.int .u8, 1, 1, [.int .u8 0]⟩ := by kernel_rfl
theorem ti9 : ti Tryz.prog 9 = some ⟨.str, 1, 16, [.string { data := #[] }]⟩ := by kernel_rfl
theorem ti12 : ti Tryz.prog 12 = some ⟨.int .u64, 1, 8, [.int .u64 0]⟩ := by kernel_rfl
theorem ti13 : ti Tryz.prog 13 = some ⟨.st [(0, 9, true), (1, 12, true)], 2, 24, [.string { data := #[] }, .int .u64 0]⟩ := by kernel_rfl
theorem ti20 : ti Tryz.prog 20 = some ⟨.iface, 1, 16, [.nilIface]⟩ := by kernel_rfl
theorem ti21 : ti Tryz.prog 21 = some ⟨.int .i32, 1, 4, [.int .i32 0]⟩ := by kernel_rfl
theorem ti22 : ti Tryz.prog 22 = some ⟨.st [(0, 9, true), (1, 9, true), (2, 9, true)], 3, 48, [.string { data := #[] }, .string { data := #[] }, .string { data := #[] }]⟩ := by kernel_rfl
theorem ti23 : ti Tryz.prog 23 = some ⟨.st [(0, 9, true), (1, 9, true), (2, 9, true)], 3, 48, [.string { data := #[] }, .string { data := #[] }, .string { data := #[] }]⟩ := by kernel_rfl
theorem st23 : stOk Tryz.prog 23 = true := by kernel_rfl
theorem eq23 : eqOk Tryz.prog 23 = true := by kernel_rfl
theorem fi23_0 : fi Tryz.prog 23 0 = some ⟨0, 1, false⟩ := by kernel_rfl
theorem fi23_1 : fi Tryz.prog 23 1 = some ⟨1, 1, false⟩ := by kernel_rfl
theorem fi23_2 : fi Tryz.prog 23 2 = some ⟨2, 1, false⟩ := by kernel_rfl
theorem ti24 : ti Tryz.prog 24 = some ⟨.int .u64, 1, 8, [.int .u64 0]⟩ := by kernel_rfl
theorem ti25 : ti Tryz.prog 25 = some ⟨.int .u64, 1, 8, [.int .u64 0]⟩ := by kernel_rfl
theorem ti26 : ti Tryz.prog 26 = some ⟨.st [(0, 4, true), (1, 23, true), (4, 3, true), (5, 25, true), (6, 3, true), (7, 3, true), (8, 9, true), (9, 9, true)], 10, 120, [.bool false, .string { data := #[] }, .string { data := #[] }, .string { data := #[] }, .int .i64 0, .int .u64 0, .int .i64 0, .int .i64 0, .string { data := #[] }, .string { data := #[] }]⟩ := by kernel_rfl
theorem ti27 : ti Tryz.prog 27 = some ⟨.st [(0, 4, true), (1, 23, true), (4, 3, true), (5, 25, true), (6, 3, true), (7, 3, true), (8, 9, true), (9, 9, true)], 10, 120, [.bool false, .string { data := #[] }, .string { data := #[] }, .string { data := #[] }, .int .i64 0, .int .u64 0, .int .i64 0, .int .i64 0, .string { data := #[] }, .string { data := #[] }]⟩ := by kernel_rfl
theorem st27 : stOk Tryz.prog 27 = true := by kernel_rfl
theorem eq27 : eqOk Tryz.prog 27 = true := by kernel_rfl
theorem fi27_0 : fi Tryz.prog 27 0 = some ⟨0, 1, false⟩ := by kernel_rfl
theorem fi27_1 : fi Tryz.prog 27 1 = some ⟨1, 3, true⟩ := by kernel_rfl
theorem fi27_2 : fi Tryz.prog 27 2 = some ⟨4, 1, false⟩ := by kernel_rfl
theorem fi27_3 : fi Tryz.prog 27 3 = some ⟨5, 1, false⟩ := by kernel_rfl
theorem fi27_4 : fi Tryz.prog 27 4 = some ⟨6, 1, false⟩ := by kernel_rfl
theorem fi27_5 : fi Tryz.prog 27 5 = some ⟨7, 1, false⟩ := by kernel_rfl
theorem fi27_6 : fi Tryz.prog 27 6 = some ⟨8, 1, false⟩ := by kernel_rfl
theorem fi27_7 : fi Tryz.prog 27 7 = some ⟨9, 1, false⟩ := by kernel_rfl
theorem ti28 : ti Tryz.prog 28 = some ⟨.slc 5, 1, 24, [.slice none 0 0]⟩ := by kernel_rfl
theorem ti29 : ti Tryz.prog 29 = some ⟨.int .u16, 1, 2, [.int .u16 0]⟩ := by kernel_rfl
theorem ti30 : ti Tryz.prog 30 = some ⟨.fn, 1, 8, [.nilFunc]⟩ := by kernel_rfl
theorem ti31 : ti Tryz.prog 31 = some ⟨.fn, 1, 8, [.nilFunc]⟩ := by kernel_rfl
theorem ti32 : ti Tryz.prog 32 = some ⟨.fn, 1, 8, [.nilFunc]⟩ := by kernel_rfl
theorem ti33 : ti Tryz.prog 33 = some ⟨.slc 27, 1, 24, [.slice none 0 0]⟩ := by kernel_rfl
theorem ti34 : ti Tryz.prog 34 = some ⟨.fn, 1, 8, [.nilFunc]⟩ := by kernel_rfl
theorem ti35 : ti Tryz.prog 35 = some ⟨.slc 25, 1, 24, [.slice none 0 0]⟩ := by kernel_rfl
theorem ti36 : ti Tryz.prog 36 = some ⟨.int .i64, 1, 8, [.int .i64 0]⟩ := by kernel_rfl
theorem ti38 : ti Tryz.prog 38 = some ⟨.fn, 1, 8, [.nilFunc]⟩ := by kernel_rfl
theorem ti39 : ti Tryz.prog 39 = some ⟨.fn, 1, 8, [.nilFunc]⟩ := by kernel_rfl
theorem ti40 : ti Tryz.prog 40 = some ⟨.slc 28, 1, 24, [.slice none 0 0]⟩ := by kernel_rfl
theorem ti42 : ti Tryz.prog 42 = some ⟨.fn, 1, 8, [.nilFunc]⟩ := by kernel_rfl
theorem ti43 : ti Tryz.prog 43 = some ⟨.fn, 1, 8, [.nilFunc]⟩ := by kernel_rfl
theorem ti44 : ti Tryz.prog 44 = some ⟨.fn, 1, 8, [.nilFunc]⟩ := by kernel_rfl
theorem ti45 : ti Tryz.prog 45 = some ⟨.ptr 47, 1, 8, [.pointer none]⟩ := by kernel_rfl
theorem ti46 : ti Tryz.prog 46 = some ⟨.st [(0, 28, true), (1, 3, true)], 2, 32, [.slice none 0 0, .int .i64 0]⟩ := by kernel_rfl
theorem ti47 : ti Tryz.prog 47 = some ⟨.st [(0, 28, true), (1, 3, true)], 2, 32, [.slice none 0 0, .int .i64 0]⟩ := by kernel_rfl
theorem st47 : stOk Tryz.prog 47 = true := by kernel_rfl
theorem fi47_0 : fi Tryz.prog 47 0 = some ⟨0, 1, false⟩ := by kernel_rfl
theorem fi47_1 : fi Tryz.prog 47 1 = some ⟨1, 1, false⟩ := by kernel_rfl
theorem ti48 : ti Tryz.prog 48 = some ⟨.fn, 1, 8, [.nilFunc]⟩ := by kernel_rfl
theorem ti49 : ti Tryz.prog 49 = some ⟨.fn, 1, 8, [.nilFunc]⟩ := by kernel_rfl
theorem ti50 : ti Tryz.prog 50 = some ⟨.fn, 1, 8, [.nilFunc]⟩ := by kernel_rfl
theorem ti51 : ti Tryz.prog 51 = some ⟨.int .u64, 1, 8, [.int .u64 0]⟩ := by kernel_rfl
theorem ti53 : ti Tryz.prog 53 = some ⟨.fn, 1, 8, [.nilFunc]⟩ := by kernel_rfl
theorem ti54 : ti Tryz.prog 54 = some ⟨.fn, 1, 8, [.nilFunc]⟩ := by kernel_rfl
theorem ti55 : ti Tryz.prog 55 = some ⟨.fn, 1, 8, [.nilFunc]⟩ := by kernel_rfl
theorem ti56 : ti Tryz.prog 56 = some ⟨.fn, 1, 8, [.nilFunc]⟩ := by kernel_rfl
theorem ti57 : ti Tryz.prog 57 = some ⟨.fn, 1, 8, [.nilFunc]⟩ := by kernel_rfl
theorem ti58 : ti Tryz.prog 58 = some ⟨.fn, 1, 8, [.nilFunc]⟩ := by kernel_rfl
theorem ti59 : ti Tryz.prog 59 = some ⟨.fn, 1, 8, [.nilFunc]⟩ := by kernel_rfl
theorem ti60 : ti Tryz.prog 60 = some ⟨.fn, 1, 8, [.nilFunc]⟩ := by kernel_rfl
theorem ti61 : ti Tryz.prog 61 = some ⟨.fn, 1, 8, [.nilFunc]⟩ := by kernel_rfl
theorem ti62 : ti Tryz.prog 62 = some ⟨.fn, 1, 8, [.nilFunc]⟩ := by kernel_rfl
theorem ti63 : ti Tryz.prog 63 = some ⟨.slc 9, 1, 24, [.slice none 0 0]⟩ := by kernel_rfl
theorem ti64 : ti Tryz.prog 64 = some ⟨.fn, 1, 8, [.nilFunc]⟩ := by kernel_rfl
theorem ti65 : ti Tryz.prog 65 = some ⟨.slc 23, 1, 24, [.slice none 0 0]⟩ := by kernel_rfl
theorem ti66 : ti Tryz.prog 66 = some ⟨.fn, 1, 8, [.nilFunc]⟩ := by kernel_rfl
theorem ti67 : ti Tryz.prog 67 = some ⟨.fn, 1, 8, [.nilFunc]⟩ := by kernel_rfl
theorem ti68 : ti Tryz.prog 68 = some ⟨.st [(0, 3, true), (1, 25, true), (2, 28, true)], 3, 40, [.int .i64 0, .int .u64 0, .slice none 0 0]⟩ := by kernel_rfl
theorem ti69 : ti Tryz.prog 69 = some ⟨.st [(0, 3, true), (1, 25, true), (2, 28, true)], 3, 40, [.int .i64 0, .int .u64 0, .slice none 0 0]⟩ := by kernel_rfl
theorem st69 : stOk Tryz.prog 69 = true := by kernel_rfl
theorem fi69_0 : fi Tryz.prog 69 0 = some ⟨0, 1, false⟩ := by kernel_rfl
theorem fi69_1 : fi Tryz.prog 69 1 = some ⟨1, 1, false⟩ := by kernel_rfl
theorem fi69_2 : fi Tryz.prog 69 2 = some ⟨2, 1, false⟩ := by kernel_rfl
theorem ti71 : ti Tryz.prog 71 = some ⟨.fn, 1, 8, [.nilFunc]⟩ := by kernel_rfl
theorem ti72 : ti Tryz.prog 72 = some ⟨.ptr 95, 1, 8, [.pointer none]⟩ := by kernel_rfl
theorem ti73 : ti Tryz.prog 73 = some ⟨.fn, 1, 8, [.nilFunc]⟩ := by kernel_rfl
theorem ti74 : ti Tryz.prog 74 = some ⟨.fn, 1, 8, [.nilFunc]⟩ := by kernel_rfl
theorem ti75 : ti Tryz.prog 75 = some ⟨.fn, 1, 8, [.nilFunc]⟩ := by kernel_rfl
theorem ti76 : ti Tryz.prog 76 = some ⟨.fn, 1, 8, [.nilFunc]⟩ := by kernel_rfl
theorem ti77 : ti Tryz.prog 77 = some ⟨.fn, 1, 8, [.nilFunc]⟩ := by kernel_rfl
theorem ti78 : ti Tryz.prog 78 = some ⟨.fn, 1, 8, [.nilFunc]⟩ := by kernel_rfl
theorem ti79 : ti Tryz.prog 79 = some ⟨.ptr 81, 1, 8, [.pointer none]⟩ := by kernel_rfl
theorem ti80 : ti Tryz.prog 80 = some ⟨.st [(0, 28, true), (1, 3, true), (2, 4, true), (3, 4, true)], 4, 40, [.slice none 0 0, .int .i64 0, .bool false, .bool false]⟩ := by kernel_rfl
theorem ti81 : ti Tryz.prog 81 = some ⟨.st [(0, 28, true), (1, 3, true), (2, 4, true), (3, 4, true)], 4, 40, [.slice none 0 0, .int .i64 0, .bool false, .bool false]⟩ := by kernel_rfl
theorem st81 : stOk Tryz.prog 81 = true := by kernel_rfl
theorem fi81_0 : fi Tryz.prog 81 0 = some ⟨0, 1, false⟩ := by kernel_rfl
theorem fi81_1 : fi Tryz.prog 81 1 = some ⟨1, 1, false⟩ := by kernel_rfl
theorem fi81_2 : fi Tryz.prog 81 2 = some ⟨2, 1, false⟩ := by kernel_rfl
theorem fi81_3 : fi Tryz.prog 81 3 = some ⟨3, 1, false⟩ := by kernel_rfl
theorem ti83 : ti Tryz.prog 83 = some ⟨.fn, 1, 8, [.nilFunc]⟩ := by kernel_rfl
theorem ti84 : ti Tryz.prog 84 = some ⟨.fn, 1, 8, [.nilFunc]⟩ := by kernel_rfl
theorem ti85 : ti Tryz.prog 85 = some ⟨.fn, 1, 8, [.nilFunc]⟩ := by kernel_rfl
theorem ti86 : ti Tryz.prog 86 = some ⟨.fn, 1, 8, [.nilFunc]⟩ := by kernel_rfl
theorem ti87 : ti Tryz.prog 87 = some ⟨.fn, 1, 8, [.nilFunc]⟩ := by kernel_rfl
theorem ti88 : ti Tryz.prog 88 = some ⟨.fn, 1, 8, [.nilFunc]⟩ := by kernel_rfl
theorem ti89 : ti Tryz.prog 89 = some ⟨.fn, 1, 8, [.nilFunc]⟩ := by kernel_rfl
theorem ti90 : ti Tryz.prog 90 = some ⟨.fn, 1, 8, [.nilFunc]⟩ := by kernel_rfl
theorem ti91 : ti Tryz.prog 91 = some ⟨.fn, 1, 8, [.nilFunc]⟩ := by kernel_rfl
theorem ti92 : ti Tryz.prog 92 = some ⟨.fn, 1, 8, [.nilFunc]⟩ := by kernel_rfl
theorem ti93 : ti Tryz.prog 93 = some ⟨.fn, 1, 8, [.nilFunc]⟩ := by kernel_rfl
theorem ti94 : ti Tryz.prog 94 = some ⟨.st [(0, 28, true), (1, 3, true), (2, 4, true), (3, 4, true)], 4, 40, [.slice none 0 0, .int .i64 0, .bool false, .bool false]⟩ := by kernel_rfl
theorem ti95 : ti Tryz.prog 95 = some ⟨.st [(0, 28, true), (1, 3, true), (2, 4, true), (3, 4, true)], 4, 40, [.slice none 0 0, .int .i64 0, .bool false, .bool false]⟩ := by kernel_rfl
theorem st95 : stOk Tryz.prog 95 = true := by kernel_rfl
theorem fi95_0 : fi Tryz.prog 95 0 = some ⟨0, 1, false⟩ := by kernel_rfl
theorem fi95_1 : fi Tryz.prog 95 1 = some ⟨1, 1, false⟩ := by kernel_rfl
theorem fi95_2 : fi Tryz.prog 95 2 = some ⟨2, 1, false⟩ := by kernel_rfl
theorem fi95_3 : fi Tryz.prog 95 3 = some ⟨3, 1, false⟩ := by kernel_rfl
theorem ti96 : ti Tryz.prog 96 = some ⟨.fn, 1, 8, [.nilFunc]⟩ := by kernel_rfl
theorem ti98 : ti Tryz.prog 98 = some ⟨.fn, 1, 8, [.nilFunc]⟩ := by kernel_rfl
theorem ti99 : ti Tryz.prog 99 = some ⟨.fn, 1, 8, [.nilFunc]⟩ := by kernel_rfl
theorem ti100 : ti Tryz.prog 100 = some ⟨.fn, 1, 8, [.nilFunc]⟩ := by kernel_rfl
theorem ti102 : ti Tryz.prog 102 = some ⟨.fn, 1, 8, [.nilFunc]⟩ := by kernel_rfl
theorem ti103 : ti Tryz.prog 103 = some ⟨.fn, 1, 8, [.nilFunc]⟩ := by kernel_rfl
theorem ti104 : ti Tryz.prog 104 = some ⟨.fn, 1, 8, [.nilFunc]⟩ := by kernel_rfl
theorem ti105 : ti Tryz.prog 105 = some ⟨.fn, 1, 8, [.nilFunc]⟩ := by kernel_rfl
theorem ti107 : ti Tryz.prog 107 = some ⟨.fn, 1, 8, [.nilFunc]⟩ := by kernel_rfl
theorem ti108 : ti Tryz.prog 108 = some ⟨.fn, 1, 8, [.nilFunc]⟩ := by kernel_rfl
theorem ti109 : ti Tryz.prog 109 = some ⟨.fn, 1, 8, [.nilFunc]⟩ := by kernel_rfl
theorem ti111 : ti Tryz.prog 111 = some ⟨.fn, 1, 8, [.nilFunc]⟩ := by kernel_rfl
theorem ti112 : ti Tryz.prog 112 = some ⟨.fn, 1, 8, [.nilFunc]⟩ := by kernel_rfl
theorem ti114 : ti Tryz.prog 114 = some ⟨.fn, 1, 8, [.nilFunc]⟩ := by kernel_rfl
theorem ti115 : ti Tryz.prog 115 = some ⟨.fn, 1, 8, [.nilFunc]⟩ := by kernel_rfl
theorem ti116 : ti Tryz.prog 116 = some ⟨.arr 3 9, 3, 48, [.string { data := #[] }, .string { data := #[] }, .string { data := #[] }]⟩ := by kernel_rfl
theorem ti117 : ti Tryz.prog 117 = some ⟨.fn, 1, 8, [.nilFunc]⟩ := by kernel_rfl
theorem ti118 : ti Tryz.prog 118 = some ⟨.fn, 1, 8, [.nilFunc]⟩ := by kernel_rfl
theorem ti119 : ti Tryz.prog 119 = some ⟨.fn, 1, 8, [.nilFunc]⟩ := by kernel_rfl
theorem ti120 : ti Tryz.prog 120 = some ⟨.fn, 1, 8, [.nilFunc]⟩ := by kernel_rfl
theorem ti121 : ti Tryz.prog 121 = some ⟨.fn, 1, 8, [.nilFunc]⟩ := by kernel_rfl
theorem ti127 : ti Tryz.prog 127 = some ⟨.int .u32, 1, 4, [.int .u32 0]⟩ := by kernel_rfl
theorem ti130 : ti Tryz.prog 130 = some ⟨.fn, 1, 8, [.nilFunc]⟩ := by kernel_rfl
theorem ti131 : ti Tryz.prog 131 = some ⟨.ptr 5, 1, 8, [.pointer none]⟩ := by kernel_rfl
attribute [go_sem] ti1 ti2 ti3 ti4 ti5 ti9 ti12 ti13 ti20 ti21 ti22 ti23 st23 eq23 fi23_0 fi23_1 fi23_2 ti24 ti25 ti26 ti27 st27 eq27 fi27_0 fi27_1 fi27_2 fi27_3 fi27_4 fi27_5 fi27_6 fi27_7 ti28 ti29 ti30 ti31 ti32 ti33 ti34 ti35 ti36 ti38 ti39 ti40 ti42 ti43 ti44 ti45 ti46 ti47 st47 fi47_0 fi47_1 ti48 ti49 ti50 ti51 ti53 ti54 ti55 ti56 ti57 ti58 ti59 ti60 ti61 ti62 ti63 ti64 ti65 ti66 ti67 ti68 ti69 st69 fi69_0 fi69_1 fi69_2 ti71 ti72 ti73 ti74 ti75 ti76 ti77 ti78 ti79 ti80 ti81 st81 fi81_0 fi81_1 fi81_2 fi81_3 ti83 ti84 ti85 ti86 ti87 ti88 ti89 ti90 ti91 ti92 ti93 ti94 ti95 st95 fi95_0 fi95_1 fi95_2 fi95_3 ti96 ti98 ti99 ti100 ti102 ti103 ti104 ti105 ti107 ti108 ti109 ti111 ti112 ti114 ti115 ti116 ti117 ti118 ti119 ti120 ti121 ti127 ti130 ti131
theorem mixed : Tryz.prog.follows .mixedOrders = true := by kernel_rfl
end Go.Proofs.YtaokfnfaipdpdaaGreat.Ty
