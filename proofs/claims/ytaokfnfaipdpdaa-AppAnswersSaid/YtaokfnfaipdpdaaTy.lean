/- What the logic has to know of the types of this translation: closed facts, printed by a program of this claim. No condition. -/
import Derived.Test.YtaokfnfaipdpdaaProg
import Derived.Test.YtaokfnfaipdpdaaHlB
import Derived.KernelRfl
import Derived.Attr
set_option linter.unusedVariables false
namespace Go.Proofs.Ytaokfnfaipdpdaa.Ty
open Go Go.Proofs Go.Proofs.Ytaokfnfaipdpdaa.Hl
theorem ti1 : ti Try.prog 1 = some ⟨.fn, 1, 8, [.nilFunc]⟩ := by kernel_rfl
theorem ti2 : ti Try.prog 2 = some ⟨.int .i64, 1, 8, [.int .i64 0]⟩ := by kernel_rfl
theorem ti3 : ti Try.prog 3 = some ⟨.int .i64, 1, 8, [.int .i64 0]⟩ := by kernel_rfl
theorem ti4 : ti Try.prog 4 = some ⟨.bool, 1, 1, [.bool false]⟩ := by kernel_rfl
theorem ti5 : ti Try.prog 5 = some ⟨.int .u8, 1, 1, [.int .u8 0]⟩ := by kernel_rfl
theorem ti9 : ti Try.prog 9 = some ⟨.str, 1, 16, [.string { data := #[] }]⟩ := by kernel_rfl
theorem ti12 : ti Try.prog 12 = some ⟨.int .u64, 1, 8, [.int .u64 0]⟩ := by kernel_rfl
theorem ti13 : ti Try.prog 13 = some ⟨.st [(0, 9, true), (1, 12, true)], 2, 24, [.string { data := #[] }, .int .u64 0]⟩ := by kernel_rfl
theorem ti20 : ti Try.prog 20 = some ⟨.iface, 1, 16, [.nilIface]⟩ := by kernel_rfl
theorem ti21 : ti Try.prog 21 = some ⟨.int .i32, 1, 4, [.int .i32 0]⟩ := by kernel_rfl
theorem ti22 : ti Try.prog 22 = some ⟨.slc 5, 1, 24, [.slice none 0 0]⟩ := by kernel_rfl
theorem ti23 : ti Try.prog 23 = some ⟨.int .u16, 1, 2, [.int .u16 0]⟩ := by kernel_rfl
theorem ti24 : ti Try.prog 24 = some ⟨.fn, 1, 8, [.nilFunc]⟩ := by kernel_rfl
theorem ti25 : ti Try.prog 25 = some ⟨.int .i64, 1, 8, [.int .i64 0]⟩ := by kernel_rfl
theorem ti27 : ti Try.prog 27 = some ⟨.fn, 1, 8, [.nilFunc]⟩ := by kernel_rfl
theorem ti28 : ti Try.prog 28 = some ⟨.st [(0, 9, true), (1, 9, true), (2, 9, true)], 3, 48, [.string { data := #[] }, .string { data := #[] }, .string { data := #[] }]⟩ := by kernel_rfl
theorem ti29 : ti Try.prog 29 = some ⟨.st [(0, 9, true), (1, 9, true), (2, 9, true)], 3, 48, [.string { data := #[] }, .string { data := #[] }, .string { data := #[] }]⟩ := by kernel_rfl
theorem st29 : stOk Try.prog 29 = true := by kernel_rfl
theorem eq29 : eqOk Try.prog 29 = true := by kernel_rfl
theorem fi29_0 : fi Try.prog 29 0 = some ⟨0, 1, false⟩ := by kernel_rfl
theorem fi29_1 : fi Try.prog 29 1 = some ⟨1, 1, false⟩ := by kernel_rfl
theorem fi29_2 : fi Try.prog 29 2 = some ⟨2, 1, false⟩ := by kernel_rfl
theorem ti30 : ti Try.prog 30 = some ⟨.st [(0, 29, true), (3, 3, true), (4, 3, true), (5, 3, true)], 6, 72, [.string { data := #[] }, .string { data := #[] }, .string { data := #[] }, .int .i64 0, .int .i64 0, .int .i64 0]⟩ := by kernel_rfl
theorem ti31 : ti Try.prog 31 = some ⟨.st [(0, 29, true), (3, 3, true), (4, 3, true), (5, 3, true)], 6, 72, [.string { data := #[] }, .string { data := #[] }, .string { data := #[] }, .int .i64 0, .int .i64 0, .int .i64 0]⟩ := by kernel_rfl
theorem st31 : stOk Try.prog 31 = true := by kernel_rfl
theorem eq31 : eqOk Try.prog 31 = true := by kernel_rfl
theorem fi31_0 : fi Try.prog 31 0 = some ⟨0, 3, true⟩ := by kernel_rfl
theorem fi31_1 : fi Try.prog 31 1 = some ⟨3, 1, false⟩ := by kernel_rfl
theorem fi31_2 : fi Try.prog 31 2 = some ⟨4, 1, false⟩ := by kernel_rfl
theorem fi31_3 : fi Try.prog 31 3 = some ⟨5, 1, false⟩ := by kernel_rfl
theorem ti32 : ti Try.prog 32 = some ⟨.fn, 1, 8, [.nilFunc]⟩ := by kernel_rfl
theorem ti33 : ti Try.prog 33 = some ⟨.fn, 1, 8, [.nilFunc]⟩ := by kernel_rfl
theorem ti34 : ti Try.prog 34 = some ⟨.slc 22, 1, 24, [.slice none 0 0]⟩ := by kernel_rfl
theorem ti36 : ti Try.prog 36 = some ⟨.fn, 1, 8, [.nilFunc]⟩ := by kernel_rfl
theorem ti37 : ti Try.prog 37 = some ⟨.fn, 1, 8, [.nilFunc]⟩ := by kernel_rfl
theorem ti38 : ti Try.prog 38 = some ⟨.int .u64, 1, 8, [.int .u64 0]⟩ := by kernel_rfl
theorem ti39 : ti Try.prog 39 = some ⟨.int .u64, 1, 8, [.int .u64 0]⟩ := by kernel_rfl
theorem ti40 : ti Try.prog 40 = some ⟨.fn, 1, 8, [.nilFunc]⟩ := by kernel_rfl
theorem ti41 : ti Try.prog 41 = some ⟨.slc 31, 1, 24, [.slice none 0 0]⟩ := by kernel_rfl
theorem ti42 : ti Try.prog 42 = some ⟨.fn, 1, 8, [.nilFunc]⟩ := by kernel_rfl
theorem ti43 : ti Try.prog 43 = some ⟨.slc 39, 1, 24, [.slice none 0 0]⟩ := by kernel_rfl
theorem ti44 : ti Try.prog 44 = some ⟨.fn, 1, 8, [.nilFunc]⟩ := by kernel_rfl
theorem ti45 : ti Try.prog 45 = some ⟨.fn, 1, 8, [.nilFunc]⟩ := by kernel_rfl
theorem ti46 : ti Try.prog 46 = some ⟨.fn, 1, 8, [.nilFunc]⟩ := by kernel_rfl
theorem ti47 : ti Try.prog 47 = some ⟨.fn, 1, 8, [.nilFunc]⟩ := by kernel_rfl
theorem ti48 : ti Try.prog 48 = some ⟨.st [(0, 4, true), (1, 29, true), (4, 3, true), (5, 39, true), (6, 3, true), (7, 3, true), (8, 9, true), (9, 9, true)], 10, 120, [.bool false, .string { data := #[] }, .string { data := #[] }, .string { data := #[] }, .int .i64 0, .int .u64 0, .int .i64 0, .int .i64 0, .string { data := #[] }, .string { data := #[] }]⟩ := by kernel_rfl
theorem ti49 : ti Try.prog 49 = some ⟨.st [(0, 4, true), (1, 29, true), (4, 3, true), (5, 39, true), (6, 3, true), (7, 3, true), (8, 9, true), (9, 9, true)], 10, 120, [.bool false, .string { data := #[] }, .string { data := #[] }, .string { data := #[] }, .int .i64 0, .int .u64 0, .int .i64 0, .int .i64 0, .string { data := #[] }, .string { data := #[] }]⟩ := by kernel_rfl
theorem st49 : stOk Try.prog 49 = true := by kernel_rfl
theorem eq49 : eqOk Try.prog 49 = true := by kernel_rfl
theorem fi49_0 : fi Try.prog 49 0 = some ⟨0, 1, false⟩ := by kernel_rfl
theorem fi49_1 : fi Try.prog 49 1 = some ⟨1, 3, true⟩ := by kernel_rfl
theorem fi49_2 : fi Try.prog 49 2 = some ⟨4, 1, false⟩ := by kernel_rfl
theorem fi49_3 : fi Try.prog 49 3 = some ⟨5, 1, false⟩ := by kernel_rfl
theorem fi49_4 : fi Try.prog 49 4 = some ⟨6, 1, false⟩ := by kernel_rfl
theorem fi49_5 : fi Try.prog 49 5 = some ⟨7, 1, false⟩ := by kernel_rfl
theorem fi49_6 : fi Try.prog 49 6 = some ⟨8, 1, false⟩ := by kernel_rfl
theorem fi49_7 : fi Try.prog 49 7 = some ⟨9, 1, false⟩ := by kernel_rfl
theorem ti50 : ti Try.prog 50 = some ⟨.fn, 1, 8, [.nilFunc]⟩ := by kernel_rfl
theorem ti51 : ti Try.prog 51 = some ⟨.fn, 1, 8, [.nilFunc]⟩ := by kernel_rfl
theorem ti52 : ti Try.prog 52 = some ⟨.slc 49, 1, 24, [.slice none 0 0]⟩ := by kernel_rfl
theorem ti53 : ti Try.prog 53 = some ⟨.fn, 1, 8, [.nilFunc]⟩ := by kernel_rfl
theorem ti55 : ti Try.prog 55 = some ⟨.fn, 1, 8, [.nilFunc]⟩ := by kernel_rfl
theorem ti56 : ti Try.prog 56 = some ⟨.fn, 1, 8, [.nilFunc]⟩ := by kernel_rfl
theorem ti57 : ti Try.prog 57 = some ⟨.fn, 1, 8, [.nilFunc]⟩ := by kernel_rfl
theorem ti58 : ti Try.prog 58 = some ⟨.fn, 1, 8, [.nilFunc]⟩ := by kernel_rfl
theorem ti59 : ti Try.prog 59 = some ⟨.fn, 1, 8, [.nilFunc]⟩ := by kernel_rfl
theorem ti60 : ti Try.prog 60 = some ⟨.fn, 1, 8, [.nilFunc]⟩ := by kernel_rfl
theorem ti61 : ti Try.prog 61 = some ⟨.fn, 1, 8, [.nilFunc]⟩ := by kernel_rfl
theorem ti62 : ti Try.prog 62 = some ⟨.st [(0, 3, true), (1, 3, true), (2, 3, true)], 3, 24, [.int .i64 0, .int .i64 0, .int .i64 0]⟩ := by kernel_rfl
theorem ti63 : ti Try.prog 63 = some ⟨.st [(0, 3, true), (1, 3, true), (2, 3, true)], 3, 24, [.int .i64 0, .int .i64 0, .int .i64 0]⟩ := by kernel_rfl
theorem st63 : stOk Try.prog 63 = true := by kernel_rfl
theorem eq63 : eqOk Try.prog 63 = true := by kernel_rfl
theorem fi63_0 : fi Try.prog 63 0 = some ⟨0, 1, false⟩ := by kernel_rfl
theorem fi63_1 : fi Try.prog 63 1 = some ⟨1, 1, false⟩ := by kernel_rfl
theorem fi63_2 : fi Try.prog 63 2 = some ⟨2, 1, false⟩ := by kernel_rfl
theorem ti64 : ti Try.prog 64 = some ⟨.int .u32, 1, 4, [.int .u32 0]⟩ := by kernel_rfl
theorem ti65 : ti Try.prog 65 = some ⟨.slc 63, 1, 24, [.slice none 0 0]⟩ := by kernel_rfl
theorem ti66 : ti Try.prog 66 = some ⟨.fn, 1, 8, [.nilFunc]⟩ := by kernel_rfl
theorem ti68 : ti Try.prog 68 = some ⟨.fn, 1, 8, [.nilFunc]⟩ := by kernel_rfl
theorem ti69 : ti Try.prog 69 = some ⟨.fn, 1, 8, [.nilFunc]⟩ := by kernel_rfl
theorem ti71 : ti Try.prog 71 = some ⟨.fn, 1, 8, [.nilFunc]⟩ := by kernel_rfl
theorem ti72 : ti Try.prog 72 = some ⟨.fn, 1, 8, [.nilFunc]⟩ := by kernel_rfl
theorem ti73 : ti Try.prog 73 = some ⟨.st [(0, 4, true), (1, 4, true), (2, 3, true), (3, 9, true), (4, 22, true), (5, 22, true)], 6, 80, [.bool false, .bool false, .int .i64 0, .string { data := #[] }, .slice none 0 0, .slice none 0 0]⟩ := by kernel_rfl
theorem ti74 : ti Try.prog 74 = some ⟨.st [(0, 4, true), (1, 4, true), (2, 3, true), (3, 9, true), (4, 22, true), (5, 22, true)], 6, 80, [.bool false, .bool false, .int .i64 0, .string { data := #[] }, .slice none 0 0, .slice none 0 0]⟩ := by kernel_rfl
theorem st74 : stOk Try.prog 74 = true := by kernel_rfl
theorem fi74_0 : fi Try.prog 74 0 = some ⟨0, 1, false⟩ := by kernel_rfl
theorem fi74_1 : fi Try.prog 74 1 = some ⟨1, 1, false⟩ := by kernel_rfl
theorem fi74_2 : fi Try.prog 74 2 = some ⟨2, 1, false⟩ := by kernel_rfl
theorem fi74_3 : fi Try.prog 74 3 = some ⟨3, 1, false⟩ := by kernel_rfl
theorem fi74_4 : fi Try.prog 74 4 = some ⟨4, 1, false⟩ := by kernel_rfl
theorem fi74_5 : fi Try.prog 74 5 = some ⟨5, 1, false⟩ := by kernel_rfl
theorem ti75 : ti Try.prog 75 = some ⟨.st [(0, 4, true), (1, 4, true), (2, 5, true), (3, 5, true), (4, 22, true), (5, 22, true)], 6, 56, [.bool false, .bool false, .int .u8 0, .int .u8 0, .slice none 0 0, .slice none 0 0]⟩ := by kernel_rfl
theorem ti76 : ti Try.prog 76 = some ⟨.st [(0, 4, true), (1, 4, true), (2, 5, true), (3, 5, true), (4, 22, true), (5, 22, true)], 6, 56, [.bool false, .bool false, .int .u8 0, .int .u8 0, .slice none 0 0, .slice none 0 0]⟩ := by kernel_rfl
theorem st76 : stOk Try.prog 76 = true := by kernel_rfl
theorem fi76_0 : fi Try.prog 76 0 = some ⟨0, 1, false⟩ := by kernel_rfl
theorem fi76_1 : fi Try.prog 76 1 = some ⟨1, 1, false⟩ := by kernel_rfl
theorem fi76_2 : fi Try.prog 76 2 = some ⟨2, 1, false⟩ := by kernel_rfl
theorem fi76_3 : fi Try.prog 76 3 = some ⟨3, 1, false⟩ := by kernel_rfl
theorem fi76_4 : fi Try.prog 76 4 = some ⟨4, 1, false⟩ := by kernel_rfl
theorem fi76_5 : fi Try.prog 76 5 = some ⟨5, 1, false⟩ := by kernel_rfl
theorem ti77 : ti Try.prog 77 = some ⟨.fn, 1, 8, [.nilFunc]⟩ := by kernel_rfl
theorem ti78 : ti Try.prog 78 = some ⟨.fn, 1, 8, [.nilFunc]⟩ := by kernel_rfl
theorem ti79 : ti Try.prog 79 = some ⟨.slc 74, 1, 24, [.slice none 0 0]⟩ := by kernel_rfl
theorem ti80 : ti Try.prog 80 = some ⟨.fn, 1, 8, [.nilFunc]⟩ := by kernel_rfl
theorem ti82 : ti Try.prog 82 = some ⟨.fn, 1, 8, [.nilFunc]⟩ := by kernel_rfl
theorem ti83 : ti Try.prog 83 = some ⟨.st [(0, 74, true), (6, 3, true), (7, 3, true), (8, 9, true), (9, 9, true)], 10, 128, [.bool false, .bool false, .int .i64 0, .string { data := #[] }, .slice none 0 0, .slice none 0 0, .int .i64 0, .int .i64 0, .string { data := #[] }, .string { data := #[] }]⟩ := by kernel_rfl
theorem ti84 : ti Try.prog 84 = some ⟨.st [(0, 74, true), (6, 3, true), (7, 3, true), (8, 9, true), (9, 9, true)], 10, 128, [.bool false, .bool false, .int .i64 0, .string { data := #[] }, .slice none 0 0, .slice none 0 0, .int .i64 0, .int .i64 0, .string { data := #[] }, .string { data := #[] }]⟩ := by kernel_rfl
theorem st84 : stOk Try.prog 84 = true := by kernel_rfl
theorem fi84_0 : fi Try.prog 84 0 = some ⟨0, 6, true⟩ := by kernel_rfl
theorem fi84_1 : fi Try.prog 84 1 = some ⟨6, 1, false⟩ := by kernel_rfl
theorem fi84_2 : fi Try.prog 84 2 = some ⟨7, 1, false⟩ := by kernel_rfl
theorem fi84_3 : fi Try.prog 84 3 = some ⟨8, 1, false⟩ := by kernel_rfl
theorem fi84_4 : fi Try.prog 84 4 = some ⟨9, 1, false⟩ := by kernel_rfl
theorem ti86 : ti Try.prog 86 = some ⟨.fn, 1, 8, [.nilFunc]⟩ := by kernel_rfl
theorem ti87 : ti Try.prog 87 = some ⟨.fn, 1, 8, [.nilFunc]⟩ := by kernel_rfl
theorem ti88 : ti Try.prog 88 = some ⟨.fn, 1, 8, [.nilFunc]⟩ := by kernel_rfl
theorem ti89 : ti Try.prog 89 = some ⟨.slc 84, 1, 24, [.slice none 0 0]⟩ := by kernel_rfl
theorem ti90 : ti Try.prog 90 = some ⟨.fn, 1, 8, [.nilFunc]⟩ := by kernel_rfl
theorem ti91 : ti Try.prog 91 = some ⟨.fn, 1, 8, [.nilFunc]⟩ := by kernel_rfl
theorem ti92 : ti Try.prog 92 = some ⟨.fn, 1, 8, [.nilFunc]⟩ := by kernel_rfl
theorem ti93 : ti Try.prog 93 = some ⟨.st [(0, 4, true), (1, 29, true), (4, 3, true), (5, 3, true), (6, 9, true), (7, 9, true)], 8, 104, [.bool false, .string { data := #[] }, .string { data := #[] }, .string { data := #[] }, .int .i64 0, .int .i64 0, .string { data := #[] }, .string { data := #[] }]⟩ := by kernel_rfl
theorem ti94 : ti Try.prog 94 = some ⟨.st [(0, 4, true), (1, 29, true), (4, 3, true), (5, 3, true), (6, 9, true), (7, 9, true)], 8, 104, [.bool false, .string { data := #[] }, .string { data := #[] }, .string { data := #[] }, .int .i64 0, .int .i64 0, .string { data := #[] }, .string { data := #[] }]⟩ := by kernel_rfl
theorem st94 : stOk Try.prog 94 = true := by kernel_rfl
theorem eq94 : eqOk Try.prog 94 = true := by kernel_rfl
theorem fi94_0 : fi Try.prog 94 0 = some ⟨0, 1, false⟩ := by kernel_rfl
theorem fi94_1 : fi Try.prog 94 1 = some ⟨1, 3, true⟩ := by kernel_rfl
theorem fi94_2 : fi Try.prog 94 2 = some ⟨4, 1, false⟩ := by kernel_rfl
theorem fi94_3 : fi Try.prog 94 3 = some ⟨5, 1, false⟩ := by kernel_rfl
theorem fi94_4 : fi Try.prog 94 4 = some ⟨6, 1, false⟩ := by kernel_rfl
theorem fi94_5 : fi Try.prog 94 5 = some ⟨7, 1, false⟩ := by kernel_rfl
theorem ti95 : ti Try.prog 95 = some ⟨.fn, 1, 8, [.nilFunc]⟩ := by kernel_rfl
theorem ti96 : ti Try.prog 96 = some ⟨.fn, 1, 8, [.nilFunc]⟩ := by kernel_rfl
theorem ti97 : ti Try.prog 97 = some ⟨.slc 94, 1, 24, [.slice none 0 0]⟩ := by kernel_rfl
theorem ti98 : ti Try.prog 98 = some ⟨.fn, 1, 8, [.nilFunc]⟩ := by kernel_rfl
theorem ti100 : ti Try.prog 100 = some ⟨.fn, 1, 8, [.nilFunc]⟩ := by kernel_rfl
theorem ti101 : ti Try.prog 101 = some ⟨.fn, 1, 8, [.nilFunc]⟩ := by kernel_rfl
theorem ti102 : ti Try.prog 102 = some ⟨.st [(0, 4, true), (1, 29, true), (4, 3, true), (5, 25, true), (6, 9, true)], 7, 88, [.bool false, .string { data := #[] }, .string { data := #[] }, .string { data := #[] }, .int .i64 0, .int .i64 0, .string { data := #[] }]⟩ := by kernel_rfl
theorem ti103 : ti Try.prog 103 = some ⟨.st [(0, 4, true), (1, 29, true), (4, 3, true), (5, 25, true), (6, 9, true)], 7, 88, [.bool false, .string { data := #[] }, .string { data := #[] }, .string { data := #[] }, .int .i64 0, .int .i64 0, .string { data := #[] }]⟩ := by kernel_rfl
theorem st103 : stOk Try.prog 103 = true := by kernel_rfl
theorem eq103 : eqOk Try.prog 103 = true := by kernel_rfl
theorem fi103_0 : fi Try.prog 103 0 = some ⟨0, 1, false⟩ := by kernel_rfl
theorem fi103_1 : fi Try.prog 103 1 = some ⟨1, 3, true⟩ := by kernel_rfl
theorem fi103_2 : fi Try.prog 103 2 = some ⟨4, 1, false⟩ := by kernel_rfl
theorem fi103_3 : fi Try.prog 103 3 = some ⟨5, 1, false⟩ := by kernel_rfl
theorem fi103_4 : fi Try.prog 103 4 = some ⟨6, 1, false⟩ := by kernel_rfl
theorem ti104 : ti Try.prog 104 = some ⟨.fn, 1, 8, [.nilFunc]⟩ := by kernel_rfl
theorem ti105 : ti Try.prog 105 = some ⟨.slc 103, 1, 24, [.slice none 0 0]⟩ := by kernel_rfl
theorem ti106 : ti Try.prog 106 = some ⟨.fn, 1, 8, [.nilFunc]⟩ := by kernel_rfl
theorem ti107 : ti Try.prog 107 = some ⟨.fn, 1, 8, [.nilFunc]⟩ := by kernel_rfl
theorem ti109 : ti Try.prog 109 = some ⟨.fn, 1, 8, [.nilFunc]⟩ := by kernel_rfl
theorem ti110 : ti Try.prog 110 = some ⟨.fn, 1, 8, [.nilFunc]⟩ := by kernel_rfl
theorem ti111 : ti Try.prog 111 = some ⟨.fn, 1, 8, [.nilFunc]⟩ := by kernel_rfl
theorem ti112 : ti Try.prog 112 = some ⟨.fn, 1, 8, [.nilFunc]⟩ := by kernel_rfl
theorem ti113 : ti Try.prog 113 = some ⟨.fn, 1, 8, [.nilFunc]⟩ := by kernel_rfl
theorem ti114 : ti Try.prog 114 = some ⟨.fn, 1, 8, [.nilFunc]⟩ := by kernel_rfl
theorem ti115 : ti Try.prog 115 = some ⟨.fn, 1, 8, [.nilFunc]⟩ := by kernel_rfl
theorem ti116 : ti Try.prog 116 = some ⟨.fn, 1, 8, [.nilFunc]⟩ := by kernel_rfl
theorem ti117 : ti Try.prog 117 = some ⟨.ptr 119, 1, 8, [.pointer none]⟩ := by kernel_rfl
theorem ti118 : ti Try.prog 118 = some ⟨.st [(0, 22, true), (1, 3, true)], 2, 32, [.slice none 0 0, .int .i64 0]⟩ := by kernel_rfl
theorem ti119 : ti Try.prog 119 = some ⟨.st [(0, 22, true), (1, 3, true)], 2, 32, [.slice none 0 0, .int .i64 0]⟩ := by kernel_rfl
theorem st119 : stOk Try.prog 119 = true := by kernel_rfl
theorem fi119_0 : fi Try.prog 119 0 = some ⟨0, 1, false⟩ := by kernel_rfl
theorem fi119_1 : fi Try.prog 119 1 = some ⟨1, 1, false⟩ := by kernel_rfl
theorem ti120 : ti Try.prog 120 = some ⟨.fn, 1, 8, [.nilFunc]⟩ := by kernel_rfl
theorem ti121 : ti Try.prog 121 = some ⟨.int .u64, 1, 8, [.int .u64 0]⟩ := by kernel_rfl
theorem ti122 : ti Try.prog 122 = some ⟨.ptr 158, 1, 8, [.pointer none]⟩ := by kernel_rfl
theorem ti123 : ti Try.prog 123 = some ⟨.fn, 1, 8, [.nilFunc]⟩ := by kernel_rfl
theorem ti124 : ti Try.prog 124 = some ⟨.fn, 1, 8, [.nilFunc]⟩ := by kernel_rfl
theorem ti125 : ti Try.prog 125 = some ⟨.fn, 1, 8, [.nilFunc]⟩ := by kernel_rfl
theorem ti126 : ti Try.prog 126 = some ⟨.fn, 1, 8, [.nilFunc]⟩ := by kernel_rfl
theorem ti127 : ti Try.prog 127 = some ⟨.ptr 129, 1, 8, [.pointer none]⟩ := by kernel_rfl
theorem ti128 : ti Try.prog 128 = some ⟨.st [(0, 22, true), (1, 3, true), (2, 4, true), (3, 4, true)], 4, 40, [.slice none 0 0, .int .i64 0, .bool false, .bool false]⟩ := by kernel_rfl
theorem ti129 : ti Try.prog 129 = some ⟨.st [(0, 22, true), (1, 3, true), (2, 4, true), (3, 4, true)], 4, 40, [.slice none 0 0, .int .i64 0, .bool false, .bool false]⟩ := by kernel_rfl
theorem st129 : stOk Try.prog 129 = true := by kernel_rfl
theorem fi129_0 : fi Try.prog 129 0 = some ⟨0, 1, false⟩ := by kernel_rfl
theorem fi129_1 : fi Try.prog 129 1 = some ⟨1, 1, false⟩ := by kernel_rfl
theorem fi129_2 : fi Try.prog 129 2 = some ⟨2, 1, false⟩ := by kernel_rfl
theorem fi129_3 : fi Try.prog 129 3 = some ⟨3, 1, false⟩ := by kernel_rfl
theorem ti130 : ti Try.prog 130 = some ⟨.fn, 1, 8, [.nilFunc]⟩ := by kernel_rfl
theorem ti132 : ti Try.prog 132 = some ⟨.fn, 1, 8, [.nilFunc]⟩ := by kernel_rfl
theorem ti133 : ti Try.prog 133 = some ⟨.fn, 1, 8, [.nilFunc]⟩ := by kernel_rfl
theorem ti134 : ti Try.prog 134 = some ⟨.fn, 1, 8, [.nilFunc]⟩ := by kernel_rfl
theorem ti135 : ti Try.prog 135 = some ⟨.fn, 1, 8, [.nilFunc]⟩ := by kernel_rfl
theorem ti136 : ti Try.prog 136 = some ⟨.fn, 1, 8, [.nilFunc]⟩ := by kernel_rfl
theorem ti137 : ti Try.prog 137 = some ⟨.fn, 1, 8, [.nilFunc]⟩ := by kernel_rfl
theorem ti138 : ti Try.prog 138 = some ⟨.fn, 1, 8, [.nilFunc]⟩ := by kernel_rfl
theorem ti140 : ti Try.prog 140 = some ⟨.fn, 1, 8, [.nilFunc]⟩ := by kernel_rfl
theorem ti141 : ti Try.prog 141 = some ⟨.fn, 1, 8, [.nilFunc]⟩ := by kernel_rfl
theorem ti142 : ti Try.prog 142 = some ⟨.fn, 1, 8, [.nilFunc]⟩ := by kernel_rfl
theorem ti143 : ti Try.prog 143 = some ⟨.fn, 1, 8, [.nilFunc]⟩ := by kernel_rfl
theorem ti145 : ti Try.prog 145 = some ⟨.fn, 1, 8, [.nilFunc]⟩ := by kernel_rfl
theorem ti146 : ti Try.prog 146 = some ⟨.fn, 1, 8, [.nilFunc]⟩ := by kernel_rfl
theorem ti147 : ti Try.prog 147 = some ⟨.fn, 1, 8, [.nilFunc]⟩ := by kernel_rfl
theorem ti148 : ti Try.prog 148 = some ⟨.fn, 1, 8, [.nilFunc]⟩ := by kernel_rfl
theorem ti149 : ti Try.prog 149 = some ⟨.slc 9, 1, 24, [.slice none 0 0]⟩ := by kernel_rfl
theorem ti150 : ti Try.prog 150 = some ⟨.fn, 1, 8, [.nilFunc]⟩ := by kernel_rfl
theorem ti152 : ti Try.prog 152 = some ⟨.fn, 1, 8, [.nilFunc]⟩ := by kernel_rfl
theorem ti153 : ti Try.prog 153 = some ⟨.fn, 1, 8, [.nilFunc]⟩ := by kernel_rfl
theorem ti154 : ti Try.prog 154 = some ⟨.arr 10 9, 10, 160, [.string { data := #[] }, .string { data := #[] }, .string { data := #[] }, .string { data := #[] }, .string { data := #[] }, .string { data := #[] }, .string { data := #[] }, .string { data := #[] }, .string { data := #[] }, .string { data := #[] }]⟩ := by kernel_rfl
theorem ti155 : ti Try.prog 155 = some ⟨.fn, 1, 8, [.nilFunc]⟩ := by kernel_rfl
theorem ti156 : ti Try.prog 156 = some ⟨.fn, 1, 8, [.nilFunc]⟩ := by kernel_rfl
theorem ti157 : ti Try.prog 157 = some ⟨.st [(0, 22, true), (1, 3, true), (2, 4, true), (3, 4, true)], 4, 40, [.slice none 0 0, .int .i64 0, .bool false, .bool false]⟩ := by kernel_rfl
theorem ti158 : ti Try.prog 158 = some ⟨.st [(0, 22, true), (1, 3, true), (2, 4, true), (3, 4, true)], 4, 40, [.slice none 0 0, .int .i64 0, .bool false, .bool false]⟩ := by kernel_rfl
theorem st158 : stOk Try.prog 158 = true := by kernel_rfl
theorem fi158_0 : fi Try.prog 158 0 = some ⟨0, 1, false⟩ := by kernel_rfl
theorem fi158_1 : fi Try.prog 158 1 = some ⟨1, 1, false⟩ := by kernel_rfl
theorem fi158_2 : fi Try.prog 158 2 = some ⟨2, 1, false⟩ := by kernel_rfl
theorem fi158_3 : fi Try.prog 158 3 = some ⟨3, 1, false⟩ := by kernel_rfl
theorem ti159 : ti Try.prog 159 = some ⟨.fn, 1, 8, [.nilFunc]⟩ := by kernel_rfl
theorem ti161 : ti Try.prog 161 = some ⟨.fn, 1, 8, [.nilFunc]⟩ := by kernel_rfl
theorem ti162 : ti Try.prog 162 = some ⟨.fn, 1, 8, [.nilFunc]⟩ := by kernel_rfl
theorem ti163 : ti Try.prog 163 = some ⟨.fn, 1, 8, [.nilFunc]⟩ := by kernel_rfl
theorem ti165 : ti Try.prog 165 = some ⟨.fn, 1, 8, [.nilFunc]⟩ := by kernel_rfl
theorem ti166 : ti Try.prog 166 = some ⟨.fn, 1, 8, [.nilFunc]⟩ := by kernel_rfl
theorem ti167 : ti Try.prog 167 = some ⟨.fn, 1, 8, [.nilFunc]⟩ := by kernel_rfl
theorem ti168 : ti Try.prog 168 = some ⟨.fn, 1, 8, [.nilFunc]⟩ := by kernel_rfl
theorem ti169 : ti Try.prog 169 = some ⟨.fn, 1, 8, [.nilFunc]⟩ := by kernel_rfl
theorem ti170 : ti Try.prog 170 = some ⟨.fn, 1, 8, [.nilFunc]⟩ := by kernel_rfl
theorem ti171 : ti Try.prog 171 = some ⟨.st [(0, 3, true), (1, 39, true), (2, 22, true)], 3, 40, [.int .i64 0, .int .u64 0, .slice none 0 0]⟩ := by kernel_rfl
theorem ti172 : ti Try.prog 172 = some ⟨.st [(0, 3, true), (1, 39, true), (2, 22, true)], 3, 40, [.int .i64 0, .int .u64 0, .slice none 0 0]⟩ := by kernel_rfl
theorem st172 : stOk Try.prog 172 = true := by kernel_rfl
theorem fi172_0 : fi Try.prog 172 0 = some ⟨0, 1, false⟩ := by kernel_rfl
theorem fi172_1 : fi Try.prog 172 1 = some ⟨1, 1, false⟩ := by kernel_rfl
theorem fi172_2 : fi Try.prog 172 2 = some ⟨2, 1, false⟩ := by kernel_rfl
theorem ti174 : ti Try.prog 174 = some ⟨.fn, 1, 8, [.nilFunc]⟩ := by kernel_rfl
theorem ti175 : ti Try.prog 175 = some ⟨.slc 29, 1, 24, [.slice none 0 0]⟩ := by kernel_rfl
theorem ti176 : ti Try.prog 176 = some ⟨.fn, 1, 8, [.nilFunc]⟩ := by kernel_rfl
theorem ti177 : ti Try.prog 177 = some ⟨.fn, 1, 8, [.nilFunc]⟩ := by kernel_rfl
theorem ti178 : ti Try.prog 178 = some ⟨.fn, 1, 8, [.nilFunc]⟩ := by kernel_rfl
theorem ti179 : ti Try.prog 179 = some ⟨.fn, 1, 8, [.nilFunc]⟩ := by kernel_rfl
theorem ti181 : ti Try.prog 181 = some ⟨.fn, 1, 8, [.nilFunc]⟩ := by kernel_rfl
theorem ti182 : ti Try.prog 182 = some ⟨.fn, 1, 8, [.nilFunc]⟩ := by kernel_rfl
theorem ti184 : ti Try.prog 184 = some ⟨.fn, 1, 8, [.nilFunc]⟩ := by kernel_rfl
theorem ti185 : ti Try.prog 185 = some ⟨.slc 3, 1, 24, [.slice none 0 0]⟩ := by kernel_rfl
theorem ti187 : ti Try.prog 187 = some ⟨.fn, 1, 8, [.nilFunc]⟩ := by kernel_rfl
theorem ti188 : ti Try.prog 188 = some ⟨.fn, 1, 8, [.nilFunc]⟩ := by kernel_rfl
theorem ti189 : ti Try.prog 189 = some ⟨.fn, 1, 8, [.nilFunc]⟩ := by kernel_rfl
theorem ti190 : ti Try.prog 190 = some ⟨.fn, 1, 8, [.nilFunc]⟩ := by kernel_rfl
theorem ti191 : ti Try.prog 191 = some ⟨.fn, 1, 8, [.nilFunc]⟩ := by kernel_rfl
theorem ti192 : ti Try.prog 192 = some ⟨.fn, 1, 8, [.nilFunc]⟩ := by kernel_rfl
theorem ti193 : ti Try.prog 193 = some ⟨.fn, 1, 8, [.nilFunc]⟩ := by kernel_rfl
theorem ti194 : ti Try.prog 194 = some ⟨.arr 3 9, 3, 48, [.string { data := #[] }, .string { data := #[] }, .string { data := #[] }]⟩ := by kernel_rfl
theorem ti195 : ti Try.prog 195 = some ⟨.fn, 1, 8, [.nilFunc]⟩ := by kernel_rfl
theorem ti197 : ti Try.prog 197 = some ⟨.fn, 1, 8, [.nilFunc]⟩ := by kernel_rfl
theorem ti198 : ti Try.prog 198 = some ⟨.fn, 1, 8, [.nilFunc]⟩ := by kernel_rfl
theorem ti199 : ti Try.prog 199 = some ⟨.fn, 1, 8, [.nilFunc]⟩ := by kernel_rfl
theorem ti200 : ti Try.prog 200 = some ⟨.fn, 1, 8, [.nilFunc]⟩ := by kernel_rfl
theorem ti208 : ti Try.prog 208 = some ⟨.fn, 1, 8, [.nilFunc]⟩ := by kernel_rfl
theorem ti209 : ti Try.prog 209 = some ⟨.ptr 5, 1, 8, [.pointer none]⟩ := by kernel_rfl
attribute [go_sem] ti1 ti2 ti3 ti4 ti5 ti9 ti12 ti13 ti20 ti21 ti22 ti23 ti24 ti25 ti27 ti28 ti29 st29 eq29 fi29_0 fi29_1 fi29_2 ti30 ti31 st31 eq31 fi31_0 fi31_1 fi31_2 fi31_3 ti32 ti33 ti34 ti36 ti37 ti38 ti39 ti40 ti41 ti42 ti43 ti44 ti45 ti46 ti47 ti48 ti49 st49 eq49 fi49_0 fi49_1 fi49_2 fi49_3 fi49_4 fi49_5 fi49_6 fi49_7 ti50 ti51 ti52 ti53 ti55 ti56 ti57 ti58 ti59 ti60 ti61 ti62 ti63 st63 eq63 fi63_0 fi63_1 fi63_2 ti64 ti65 ti66 ti68 ti69 ti71 ti72 ti73 ti74 st74 fi74_0 fi74_1 fi74_2 fi74_3 fi74_4 fi74_5 ti75 ti76 st76 fi76_0 fi76_1 fi76_2 fi76_3 fi76_4 fi76_5 ti77 ti78 ti79 ti80 ti82 ti83 ti84 st84 fi84_0 fi84_1 fi84_2 fi84_3 fi84_4 ti86 ti87 ti88 ti89 ti90 ti91 ti92 ti93 ti94 st94 eq94 fi94_0 fi94_1 fi94_2 fi94_3 fi94_4 fi94_5 ti95 ti96 ti97 ti98 ti100 ti101 ti102 ti103 st103 eq103 fi103_0 fi103_1 fi103_2 fi103_3 fi103_4 ti104 ti105 ti106 ti107 ti109 ti110 ti111 ti112 ti113 ti114 ti115 ti116 ti117 ti118 ti119 st119 fi119_0 fi119_1 ti120 ti121 ti122 ti123 ti124 ti125 ti126 ti127 ti128 ti129 st129 fi129_0 fi129_1 fi129_2 fi129_3 ti130 ti132 ti133 ti134 ti135 ti136 ti137 ti138 ti140 ti141 ti142 ti143 ti145 ti146 ti147 ti148 ti149 ti150 ti152 ti153 ti154 ti155 ti156 ti157 ti158 st158 fi158_0 fi158_1 fi158_2 fi158_3 ti159 ti161 ti162 ti163 ti165 ti166 ti167 ti168 ti169 ti170 ti171 ti172 st172 fi172_0 fi172_1 fi172_2 ti174 ti175 ti176 ti177 ti178 ti179 ti181 ti182 ti184 ti185 ti187 ti188 ti189 ti190 ti191 ti192 ti193 ti194 ti195 ti197 ti198 ti199 ti200 ti208 ti209
theorem mixed : Try.prog.follows .mixedOrders = true := by kernel_rfl
end Go.Proofs.Ytaokfnfaipdpdaa.Ty
