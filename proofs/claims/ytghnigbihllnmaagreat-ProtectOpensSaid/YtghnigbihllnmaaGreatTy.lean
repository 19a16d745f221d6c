/- What the logic has to know of the types of this translation: closed facts, printed by a program of this claim. No condition. -/
import Derived.Test.YtghnigbihllnmaaGreatProg
import Derived.Test.YtghnigbihllnmaaGreatHlB
import Derived.KernelRfl
import Derived.Attr
set_option linter.unusedVariables false
namespace Go.Proofs.YtghnigbihllnmaaGreat.Ty
open Go Go.Proofs Go.Proofs.YtghnigbihllnmaaGreat.Hl
theorem ti1 : ti Tryz.prog 1 = some ⟨.fn, 1, 8, [.nilFunc]⟩ := by kernel_rfl
theorem ti2 : ti Tryz.prog 2 = some ⟨.int .i64, 1, 8, [.int .i64 0]⟩ := by kernel_rfl
theorem ti3 : ti Tryz.prog 3 = some ⟨.int .i64, 1, 8, [.int .i64 0]⟩ := by kernel_rfl
theorem ti4 : ti Tryz.prog 4 = some ⟨.bool, 1, 1, [.bool false]⟩ := by kernel_rfl
theorem ti5 : ti Tryz.prog 5 = some ⟨.int .u8, 1, 1, [.int .u8 0]⟩ := by kernel_rfl
theorem ti9 : ti Tryz.prog 9 = some ⟨.str, 1, 16, [.string { data := #[] }]⟩ := by kernel_rfl
theorem ti12 : ti Tryz.prog 12 = some ⟨.int .u64, 1, 8, [.int .u64 0]⟩ := by kernel_rfl
theorem ti13 : ti Tryz.prog 13 = some ⟨.st [(0, 9, true), (1, 12, true)], 2, 24, [.string { data := #[] }, .int .u64 0]⟩ := by kernel_rfl
theorem ti20 : ti Tryz.prog 20 = some ⟨.iface, 1, 16, [.nilIface]⟩ := by kernel_rfl
theorem ti21 : ti Tryz.prog 21 = some ⟨.int .i32, 1, 4, [.int .i32 0]⟩ := by kernel_rfl
theorem ti22 : ti Tryz.prog 22 = some ⟨.slc 5, 1, 24, [.slice none 0 0]⟩ := by kernel_rfl
theorem ti23 : ti Tryz.prog 23 = some ⟨.int .u16, 1, 2, [.int .u16 0]⟩ := by kernel_rfl
theorem ti24 : ti Tryz.prog 24 = some ⟨.fn, 1, 8, [.nilFunc]⟩ := by kernel_rfl
theorem ti25 : ti Tryz.prog 25 = some ⟨.int .i64, 1, 8, [.int .i64 0]⟩ := by kernel_rfl
theorem ti27 : ti Tryz.prog 27 = some ⟨.fn, 1, 8, [.nilFunc]⟩ := by kernel_rfl
theorem ti28 : ti Tryz.prog 28 = some ⟨.st [(0, 9, true), (1, 9, true), (2, 9, true)], 3, 48, [.string { data := #[] }, .string { data := #[] }, .string { data := #[] }]⟩ := by kernel_rfl
theorem ti29 : ti Tryz.prog 29 = some ⟨.st [(0, 9, true), (1, 9, true), (2, 9, true)], 3, 48, [.string { data := #[] }, .string { data := #[] }, .string { data := #[] }]⟩ := by kernel_rfl
theorem st29 : stOk Tryz.prog 29 = true := by kernel_rfl
theorem eq29 : eqOk Tryz.prog 29 = true := by kernel_rfl
theorem fi29_0 : fi Tryz.prog 29 0 = some ⟨0, 1, false⟩ := by kernel_rfl
theorem bi29_0 : bi Tryz.prog 29 0 = some ⟨0, 1, false⟩ := by kernel_rfl
theorem fi29_1 : fi Tryz.prog 29 1 = some ⟨1, 1, false⟩ := by kernel_rfl
theorem bi29_1 : bi Tryz.prog 29 1 = some ⟨1, 1, false⟩ := by kernel_rfl
theorem fi29_2 : fi Tryz.prog 29 2 = some ⟨2, 1, false⟩ := by kernel_rfl
theorem bi29_2 : bi Tryz.prog 29 2 = some ⟨2, 1, false⟩ := by kernel_rfl
theorem ti30 : ti Tryz.prog 30 = some ⟨.st [(0, 4, true), (1, 29, true), (4, 3, true), (5, 3, true), (6, 9, true), (7, 9, true)], 8, 104, [.bool false, .string { data := #[] }, .string { data := #[] }, .string { data := #[] }, .int .i64 0, .int .i64 0, .string { data := #[] }, .string { data := #[] }]⟩ := by kernel_rfl
theorem ti31 : ti Tryz.prog 31 = some ⟨.st [(0, 4, true), (1, 29, true), (4, 3, true), (5, 3, true), (6, 9, true), (7, 9, true)], 8, 104, [.bool false, .string { data := #[] }, .string { data := #[] }, .string { data := #[] }, .int .i64 0, .int .i64 0, .string { data := #[] }, .string { data := #[] }]⟩ := by kernel_rfl
theorem st31 : stOk Tryz.prog 31 = true := by kernel_rfl
theorem eq31 : eqOk Tryz.prog 31 = true := by kernel_rfl
theorem fi31_0 : fi Tryz.prog 31 0 = some ⟨0, 1, false⟩ := by kernel_rfl
theorem bi31_0 : bi Tryz.prog 31 0 = some ⟨0, 1, false⟩ := by kernel_rfl
theorem fi31_1 : fi Tryz.prog 31 1 = some ⟨1, 3, true⟩ := by kernel_rfl
theorem bi31_1 : bi Tryz.prog 31 1 = some ⟨1, 3, true⟩ := by kernel_rfl
theorem fi31_2 : fi Tryz.prog 31 2 = some ⟨4, 1, false⟩ := by kernel_rfl
theorem bi31_2 : bi Tryz.prog 31 2 = some ⟨4, 1, false⟩ := by kernel_rfl
theorem fi31_3 : fi Tryz.prog 31 3 = some ⟨5, 1, false⟩ := by kernel_rfl
theorem bi31_3 : bi Tryz.prog 31 3 = some ⟨5, 1, false⟩ := by kernel_rfl
theorem fi31_4 : fi Tryz.prog 31 4 = some ⟨6, 1, false⟩ := by kernel_rfl
theorem bi31_4 : bi Tryz.prog 31 4 = some ⟨6, 1, false⟩ := by kernel_rfl
theorem fi31_5 : fi Tryz.prog 31 5 = some ⟨7, 1, false⟩ := by kernel_rfl
theorem bi31_5 : bi Tryz.prog 31 5 = some ⟨7, 1, false⟩ := by kernel_rfl
theorem ti32 : ti Tryz.prog 32 = some ⟨.fn, 1, 8, [.nilFunc]⟩ := by kernel_rfl
theorem ti33 : ti Tryz.prog 33 = some ⟨.fn, 1, 8, [.nilFunc]⟩ := by kernel_rfl
theorem ti34 : ti Tryz.prog 34 = some ⟨.st [(0, 4, true), (1, 29, true), (4, 3, true), (5, 3, true), (6, 3, true), (7, 22, true)], 8, 104, [.bool false, .string { data := #[] }, .string { data := #[] }, .string { data := #[] }, .int .i64 0, .int .i64 0, .int .i64 0, .slice none 0 0]⟩ := by kernel_rfl
theorem ti35 : ti Tryz.prog 35 = some ⟨.st [(0, 4, true), (1, 29, true), (4, 3, true), (5, 3, true), (6, 3, true), (7, 22, true)], 8, 104, [.bool false, .string { data := #[] }, .string { data := #[] }, .string { data := #[] }, .int .i64 0, .int .i64 0, .int .i64 0, .slice none 0 0]⟩ := by kernel_rfl
theorem st35 : stOk Tryz.prog 35 = true := by kernel_rfl
theorem fi35_0 : fi Tryz.prog 35 0 = some ⟨0, 1, false⟩ := by kernel_rfl
theorem bi35_0 : bi Tryz.prog 35 0 = some ⟨0, 1, false⟩ := by kernel_rfl
theorem fi35_1 : fi Tryz.prog 35 1 = some ⟨1, 3, true⟩ := by kernel_rfl
theorem bi35_1 : bi Tryz.prog 35 1 = some ⟨1, 3, true⟩ := by kernel_rfl
theorem fi35_2 : fi Tryz.prog 35 2 = some ⟨4, 1, false⟩ := by kernel_rfl
theorem bi35_2 : bi Tryz.prog 35 2 = some ⟨4, 1, false⟩ := by kernel_rfl
theorem fi35_3 : fi Tryz.prog 35 3 = some ⟨5, 1, false⟩ := by kernel_rfl
theorem bi35_3 : bi Tryz.prog 35 3 = some ⟨5, 1, false⟩ := by kernel_rfl
theorem fi35_4 : fi Tryz.prog 35 4 = some ⟨6, 1, false⟩ := by kernel_rfl
theorem bi35_4 : bi Tryz.prog 35 4 = some ⟨6, 1, false⟩ := by kernel_rfl
theorem fi35_5 : fi Tryz.prog 35 5 = some ⟨7, 1, false⟩ := by kernel_rfl
theorem bi35_5 : bi Tryz.prog 35 5 = some ⟨7, 1, false⟩ := by kernel_rfl
theorem ti36 : ti Tryz.prog 36 = some ⟨.fn, 1, 8, [.nilFunc]⟩ := by kernel_rfl
theorem ti37 : ti Tryz.prog 37 = some ⟨.fn, 1, 8, [.nilFunc]⟩ := by kernel_rfl
theorem ti38 : ti Tryz.prog 38 = some ⟨.int .u64, 1, 8, [.int .u64 0]⟩ := by kernel_rfl
theorem ti39 : ti Tryz.prog 39 = some ⟨.int .u64, 1, 8, [.int .u64 0]⟩ := by kernel_rfl
theorem ti40 : ti Tryz.prog 40 = some ⟨.st [(0, 39, true), (1, 29, true), (4, 3, true), (5, 3, true), (6, 22, true), (7, 3, true)], 8, 104, [.int .u64 0, .string { data := #[] }, .string { data := #[] }, .string { data := #[] }, .int .i64 0, .int .i64 0, .slice none 0 0, .int .i64 0]⟩ := by kernel_rfl
theorem ti41 : ti Tryz.prog 41 = some ⟨.st [(0, 39, true), (1, 29, true), (4, 3, true), (5, 3, true), (6, 22, true), (7, 3, true)], 8, 104, [.int .u64 0, .string { data := #[] }, .string { data := #[] }, .string { data := #[] }, .int .i64 0, .int .i64 0, .slice none 0 0, .int .i64 0]⟩ := by kernel_rfl
theorem st41 : stOk Tryz.prog 41 = true := by kernel_rfl
theorem fi41_0 : fi Tryz.prog 41 0 = some ⟨0, 1, false⟩ := by kernel_rfl
theorem bi41_0 : bi Tryz.prog 41 0 = some ⟨0, 1, false⟩ := by kernel_rfl
theorem fi41_1 : fi Tryz.prog 41 1 = some ⟨1, 3, true⟩ := by kernel_rfl
theorem bi41_1 : bi Tryz.prog 41 1 = some ⟨1, 3, true⟩ := by kernel_rfl
theorem fi41_2 : fi Tryz.prog 41 2 = some ⟨4, 1, false⟩ := by kernel_rfl
theorem bi41_2 : bi Tryz.prog 41 2 = some ⟨4, 1, false⟩ := by kernel_rfl
theorem fi41_3 : fi Tryz.prog 41 3 = some ⟨5, 1, false⟩ := by kernel_rfl
theorem bi41_3 : bi Tryz.prog 41 3 = some ⟨5, 1, false⟩ := by kernel_rfl
theorem fi41_4 : fi Tryz.prog 41 4 = some ⟨6, 1, false⟩ := by kernel_rfl
theorem bi41_4 : bi Tryz.prog 41 4 = some ⟨6, 1, false⟩ := by kernel_rfl
theorem fi41_5 : fi Tryz.prog 41 5 = some ⟨7, 1, false⟩ := by kernel_rfl
theorem bi41_5 : bi Tryz.prog 41 5 = some ⟨7, 1, false⟩ := by kernel_rfl
theorem ti42 : ti Tryz.prog 42 = some ⟨.fn, 1, 8, [.nilFunc]⟩ := by kernel_rfl
theorem ti43 : ti Tryz.prog 43 = some ⟨.fn, 1, 8, [.nilFunc]⟩ := by kernel_rfl
theorem ti44 : ti Tryz.prog 44 = some ⟨.fn, 1, 8, [.nilFunc]⟩ := by kernel_rfl
theorem ti45 : ti Tryz.prog 45 = some ⟨.st [(0, 4, true), (1, 29, true), (4, 3, true), (5, 25, true), (6, 9, true)], 7, 88, [.bool false, .string { data := #[] }, .string { data := #[] }, .string { data := #[] }, .int .i64 0, .int .i64 0, .string { data := #[] }]⟩ := by kernel_rfl
theorem ti46 : ti Tryz.prog 46 = some ⟨.st [(0, 4, true), (1, 29, true), (4, 3, true), (5, 25, true), (6, 9, true)], 7, 88, [.bool false, .string { data := #[] }, .string { data := #[] }, .string { data := #[] }, .int .i64 0, .int .i64 0, .string { data := #[] }]⟩ := by kernel_rfl
theorem st46 : stOk Tryz.prog 46 = true := by kernel_rfl
theorem eq46 : eqOk Tryz.prog 46 = true := by kernel_rfl
theorem fi46_0 : fi Tryz.prog 46 0 = some ⟨0, 1, false⟩ := by kernel_rfl
theorem bi46_0 : bi Tryz.prog 46 0 = some ⟨0, 1, false⟩ := by kernel_rfl
theorem fi46_1 : fi Tryz.prog 46 1 = some ⟨1, 3, true⟩ := by kernel_rfl
theorem bi46_1 : bi Tryz.prog 46 1 = some ⟨1, 3, true⟩ := by kernel_rfl
theorem fi46_2 : fi Tryz.prog 46 2 = some ⟨4, 1, false⟩ := by kernel_rfl
theorem bi46_2 : bi Tryz.prog 46 2 = some ⟨4, 1, false⟩ := by kernel_rfl
theorem fi46_3 : fi Tryz.prog 46 3 = some ⟨5, 1, false⟩ := by kernel_rfl
theorem bi46_3 : bi Tryz.prog 46 3 = some ⟨5, 1, false⟩ := by kernel_rfl
theorem fi46_4 : fi Tryz.prog 46 4 = some ⟨6, 1, false⟩ := by kernel_rfl
theorem bi46_4 : bi Tryz.prog 46 4 = some ⟨6, 1, false⟩ := by kernel_rfl
theorem ti47 : ti Tryz.prog 47 = some ⟨.fn, 1, 8, [.nilFunc]⟩ := by kernel_rfl
theorem ti48 : ti Tryz.prog 48 = some ⟨.slc 22, 1, 24, [.slice none 0 0]⟩ := by kernel_rfl
theorem ti50 : ti Tryz.prog 50 = some ⟨.fn, 1, 8, [.nilFunc]⟩ := by kernel_rfl
theorem ti52 : ti Tryz.prog 52 = some ⟨.fn, 1, 8, [.nilFunc]⟩ := by kernel_rfl
theorem ti53 : ti Tryz.prog 53 = some ⟨.fn, 1, 8, [.nilFunc]⟩ := by kernel_rfl
theorem ti55 : ti Tryz.prog 55 = some ⟨.fn, 1, 8, [.nilFunc]⟩ := by kernel_rfl
theorem ti56 : ti Tryz.prog 56 = some ⟨.fn, 1, 8, [.nilFunc]⟩ := by kernel_rfl
theorem ti58 : ti Tryz.prog 58 = some ⟨.fn, 1, 8, [.nilFunc]⟩ := by kernel_rfl
theorem ti59 : ti Tryz.prog 59 = some ⟨.fn, 1, 8, [.nilFunc]⟩ := by kernel_rfl
theorem ti60 : ti Tryz.prog 60 = some ⟨.st [(0, 4, true), (1, 4, true), (2, 5, true), (3, 5, true), (4, 22, true), (5, 22, true)], 6, 56, [.bool false, .bool false, .int .u8 0, .int .u8 0, .slice none 0 0, .slice none 0 0]⟩ := by kernel_rfl
theorem ti61 : ti Tryz.prog 61 = some ⟨.st [(0, 4, true), (1, 4, true), (2, 5, true), (3, 5, true), (4, 22, true), (5, 22, true)], 6, 56, [.bool false, .bool false, .int .u8 0, .int .u8 0, .slice none 0 0, .slice none 0 0]⟩ := by kernel_rfl
theorem st61 : stOk Tryz.prog 61 = true := by kernel_rfl
theorem fi61_0 : fi Tryz.prog 61 0 = some ⟨0, 1, false⟩ := by kernel_rfl
theorem bi61_0 : bi Tryz.prog 61 0 = some ⟨0, 1, false⟩ := by kernel_rfl
theorem fi61_1 : fi Tryz.prog 61 1 = some ⟨1, 1, false⟩ := by kernel_rfl
theorem bi61_1 : bi Tryz.prog 61 1 = some ⟨1, 1, false⟩ := by kernel_rfl
theorem fi61_2 : fi Tryz.prog 61 2 = some ⟨2, 1, false⟩ := by kernel_rfl
theorem bi61_2 : bi Tryz.prog 61 2 = some ⟨2, 1, false⟩ := by kernel_rfl
theorem fi61_3 : fi Tryz.prog 61 3 = some ⟨3, 1, false⟩ := by kernel_rfl
theorem bi61_3 : bi Tryz.prog 61 3 = some ⟨3, 1, false⟩ := by kernel_rfl
theorem fi61_4 : fi Tryz.prog 61 4 = some ⟨4, 1, false⟩ := by kernel_rfl
theorem bi61_4 : bi Tryz.prog 61 4 = some ⟨4, 1, false⟩ := by kernel_rfl
theorem fi61_5 : fi Tryz.prog 61 5 = some ⟨5, 1, false⟩ := by kernel_rfl
theorem bi61_5 : bi Tryz.prog 61 5 = some ⟨5, 1, false⟩ := by kernel_rfl
theorem ti62 : ti Tryz.prog 62 = some ⟨.int .u32, 1, 4, [.int .u32 0]⟩ := by kernel_rfl
theorem ti63 : ti Tryz.prog 63 = some ⟨.st [(0, 4, true), (1, 29, true), (4, 3, true), (5, 39, true), (6, 3, true), (7, 3, true), (8, 9, true), (9, 9, true)], 10, 120, [.bool false, .string { data := #[] }, .string { data := #[] }, .string { data := #[] }, .int .i64 0, .int .u64 0, .int .i64 0, .int .i64 0, .string { data := #[] }, .string { data := #[] }]⟩ := by kernel_rfl
theorem ti64 : ti Tryz.prog 64 = some ⟨.st [(0, 4, true), (1, 29, true), (4, 3, true), (5, 39, true), (6, 3, true), (7, 3, true), (8, 9, true), (9, 9, true)], 10, 120, [.bool false, .string { data := #[] }, .string { data := #[] }, .string { data := #[] }, .int .i64 0, .int .u64 0, .int .i64 0, .int .i64 0, .string { data := #[] }, .string { data := #[] }]⟩ := by kernel_rfl
theorem st64 : stOk Tryz.prog 64 = true := by kernel_rfl
theorem eq64 : eqOk Tryz.prog 64 = true := by kernel_rfl
theorem fi64_0 : fi Tryz.prog 64 0 = some ⟨0, 1, false⟩ := by kernel_rfl
theorem bi64_0 : bi Tryz.prog 64 0 = some ⟨0, 1, false⟩ := by kernel_rfl
theorem fi64_1 : fi Tryz.prog 64 1 = some ⟨1, 3, true⟩ := by kernel_rfl
theorem bi64_1 : bi Tryz.prog 64 1 = some ⟨1, 3, true⟩ := by kernel_rfl
theorem fi64_2 : fi Tryz.prog 64 2 = some ⟨4, 1, false⟩ := by kernel_rfl
theorem bi64_2 : bi Tryz.prog 64 2 = some ⟨4, 1, false⟩ := by kernel_rfl
theorem fi64_3 : fi Tryz.prog 64 3 = some ⟨5, 1, false⟩ := by kernel_rfl
theorem bi64_3 : bi Tryz.prog 64 3 = some ⟨5, 1, false⟩ := by kernel_rfl
theorem fi64_4 : fi Tryz.prog 64 4 = some ⟨6, 1, false⟩ := by kernel_rfl
theorem bi64_4 : bi Tryz.prog 64 4 = some ⟨6, 1, false⟩ := by kernel_rfl
theorem fi64_5 : fi Tryz.prog 64 5 = some ⟨7, 1, false⟩ := by kernel_rfl
theorem bi64_5 : bi Tryz.prog 64 5 = some ⟨7, 1, false⟩ := by kernel_rfl
theorem fi64_6 : fi Tryz.prog 64 6 = some ⟨8, 1, false⟩ := by kernel_rfl
theorem bi64_6 : bi Tryz.prog 64 6 = some ⟨8, 1, false⟩ := by kernel_rfl
theorem fi64_7 : fi Tryz.prog 64 7 = some ⟨9, 1, false⟩ := by kernel_rfl
theorem bi64_7 : bi Tryz.prog 64 7 = some ⟨9, 1, false⟩ := by kernel_rfl
theorem ti65 : ti Tryz.prog 65 = some ⟨.fn, 1, 8, [.nilFunc]⟩ := by kernel_rfl
theorem ti66 : ti Tryz.prog 66 = some ⟨.st [(0, 4, true), (1, 4, true), (2, 3, true), (3, 9, true), (4, 22, true), (5, 22, true)], 6, 80, [.bool false, .bool false, .int .i64 0, .string { data := #[] }, .slice none 0 0, .slice none 0 0]⟩ := by kernel_rfl
theorem ti67 : ti Tryz.prog 67 = some ⟨.st [(0, 4, true), (1, 4, true), (2, 3, true), (3, 9, true), (4, 22, true), (5, 22, true)], 6, 80, [.bool false, .bool false, .int .i64 0, .string { data := #[] }, .slice none 0 0, .slice none 0 0]⟩ := by kernel_rfl
theorem st67 : stOk Tryz.prog 67 = true := by kernel_rfl
theorem fi67_0 : fi Tryz.prog 67 0 = some ⟨0, 1, false⟩ := by kernel_rfl
theorem bi67_0 : bi Tryz.prog 67 0 = some ⟨0, 1, false⟩ := by kernel_rfl
theorem fi67_1 : fi Tryz.prog 67 1 = some ⟨1, 1, false⟩ := by kernel_rfl
theorem bi67_1 : bi Tryz.prog 67 1 = some ⟨1, 1, false⟩ := by kernel_rfl
theorem fi67_2 : fi Tryz.prog 67 2 = some ⟨2, 1, false⟩ := by kernel_rfl
theorem bi67_2 : bi Tryz.prog 67 2 = some ⟨2, 1, false⟩ := by kernel_rfl
theorem fi67_3 : fi Tryz.prog 67 3 = some ⟨3, 1, false⟩ := by kernel_rfl
theorem bi67_3 : bi Tryz.prog 67 3 = some ⟨3, 1, false⟩ := by kernel_rfl
theorem fi67_4 : fi Tryz.prog 67 4 = some ⟨4, 1, false⟩ := by kernel_rfl
theorem bi67_4 : bi Tryz.prog 67 4 = some ⟨4, 1, false⟩ := by kernel_rfl
theorem fi67_5 : fi Tryz.prog 67 5 = some ⟨5, 1, false⟩ := by kernel_rfl
theorem bi67_5 : bi Tryz.prog 67 5 = some ⟨5, 1, false⟩ := by kernel_rfl
theorem ti68 : ti Tryz.prog 68 = some ⟨.fn, 1, 8, [.nilFunc]⟩ := by kernel_rfl
theorem ti69 : ti Tryz.prog 69 = some ⟨.fn, 1, 8, [.nilFunc]⟩ := by kernel_rfl
theorem ti70 : ti Tryz.prog 70 = some ⟨.fn, 1, 8, [.nilFunc]⟩ := by kernel_rfl
theorem ti71 : ti Tryz.prog 71 = some ⟨.st [(0, 67, true), (6, 3, true), (7, 3, true), (8, 9, true), (9, 9, true)], 10, 128, [.bool false, .bool false, .int .i64 0, .string { data := #[] }, .slice none 0 0, .slice none 0 0, .int .i64 0, .int .i64 0, .string { data := #[] }, .string { data := #[] }]⟩ := by kernel_rfl
theorem ti72 : ti Tryz.prog 72 = some ⟨.st [(0, 67, true), (6, 3, true), (7, 3, true), (8, 9, true), (9, 9, true)], 10, 128, [.bool false, .bool false, .int .i64 0, .string { data := #[] }, .slice none 0 0, .slice none 0 0, .int .i64 0, .int .i64 0, .string { data := #[] }, .string { data := #[] }]⟩ := by kernel_rfl
theorem st72 : stOk Tryz.prog 72 = true := by kernel_rfl
theorem fi72_0 : fi Tryz.prog 72 0 = some ⟨0, 6, true⟩ := by kernel_rfl
theorem bi72_0 : bi Tryz.prog 72 0 = some ⟨0, 6, true⟩ := by kernel_rfl
theorem fi72_1 : fi Tryz.prog 72 1 = some ⟨6, 1, false⟩ := by kernel_rfl
theorem bi72_1 : bi Tryz.prog 72 1 = some ⟨6, 1, false⟩ := by kernel_rfl
theorem fi72_2 : fi Tryz.prog 72 2 = some ⟨7, 1, false⟩ := by kernel_rfl
theorem bi72_2 : bi Tryz.prog 72 2 = some ⟨7, 1, false⟩ := by kernel_rfl
theorem fi72_3 : fi Tryz.prog 72 3 = some ⟨8, 1, false⟩ := by kernel_rfl
theorem bi72_3 : bi Tryz.prog 72 3 = some ⟨8, 1, false⟩ := by kernel_rfl
theorem fi72_4 : fi Tryz.prog 72 4 = some ⟨9, 1, false⟩ := by kernel_rfl
theorem bi72_4 : bi Tryz.prog 72 4 = some ⟨9, 1, false⟩ := by kernel_rfl
theorem ti73 : ti Tryz.prog 73 = some ⟨.fn, 1, 8, [.nilFunc]⟩ := by kernel_rfl
theorem ti74 : ti Tryz.prog 74 = some ⟨.st [(0, 3, true), (1, 3, true), (2, 3, true)], 3, 24, [.int .i64 0, .int .i64 0, .int .i64 0]⟩ := by kernel_rfl
theorem ti75 : ti Tryz.prog 75 = some ⟨.st [(0, 3, true), (1, 3, true), (2, 3, true)], 3, 24, [.int .i64 0, .int .i64 0, .int .i64 0]⟩ := by kernel_rfl
theorem st75 : stOk Tryz.prog 75 = true := by kernel_rfl
theorem eq75 : eqOk Tryz.prog 75 = true := by kernel_rfl
theorem fi75_0 : fi Tryz.prog 75 0 = some ⟨0, 1, false⟩ := by kernel_rfl
theorem bi75_0 : bi Tryz.prog 75 0 = some ⟨0, 1, false⟩ := by kernel_rfl
theorem fi75_1 : fi Tryz.prog 75 1 = some ⟨1, 1, false⟩ := by kernel_rfl
theorem bi75_1 : bi Tryz.prog 75 1 = some ⟨1, 1, false⟩ := by kernel_rfl
theorem fi75_2 : fi Tryz.prog 75 2 = some ⟨2, 1, false⟩ := by kernel_rfl
theorem bi75_2 : bi Tryz.prog 75 2 = some ⟨2, 1, false⟩ := by kernel_rfl
theorem ti76 : ti Tryz.prog 76 = some ⟨.fn, 1, 8, [.nilFunc]⟩ := by kernel_rfl
theorem ti78 : ti Tryz.prog 78 = some ⟨.fn, 1, 8, [.nilFunc]⟩ := by kernel_rfl
theorem ti79 : ti Tryz.prog 79 = some ⟨.fn, 1, 8, [.nilFunc]⟩ := by kernel_rfl
theorem ti81 : ti Tryz.prog 81 = some ⟨.fn, 1, 8, [.nilFunc]⟩ := by kernel_rfl
theorem ti82 : ti Tryz.prog 82 = some ⟨.fn, 1, 8, [.nilFunc]⟩ := by kernel_rfl
theorem ti84 : ti Tryz.prog 84 = some ⟨.fn, 1, 8, [.nilFunc]⟩ := by kernel_rfl
theorem ti86 : ti Tryz.prog 86 = some ⟨.fn, 1, 8, [.nilFunc]⟩ := by kernel_rfl
theorem ti87 : ti Tryz.prog 87 = some ⟨.fn, 1, 8, [.nilFunc]⟩ := by kernel_rfl
theorem ti88 : ti Tryz.prog 88 = some ⟨.st [(0, 22, true), (1, 3, true), (2, 3, true), (3, 3, true)], 4, 48, [.slice none 0 0, .int .i64 0, .int .i64 0, .int .i64 0]⟩ := by kernel_rfl
theorem ti89 : ti Tryz.prog 89 = some ⟨.st [(0, 22, true), (1, 3, true), (2, 3, true), (3, 3, true)], 4, 48, [.slice none 0 0, .int .i64 0, .int .i64 0, .int .i64 0]⟩ := by kernel_rfl
theorem st89 : stOk Tryz.prog 89 = true := by kernel_rfl
theorem fi89_0 : fi Tryz.prog 89 0 = some ⟨0, 1, false⟩ := by kernel_rfl
theorem bi89_0 : bi Tryz.prog 89 0 = some ⟨0, 1, false⟩ := by kernel_rfl
theorem fi89_1 : fi Tryz.prog 89 1 = some ⟨1, 1, false⟩ := by kernel_rfl
theorem bi89_1 : bi Tryz.prog 89 1 = some ⟨1, 1, false⟩ := by kernel_rfl
theorem fi89_2 : fi Tryz.prog 89 2 = some ⟨2, 1, false⟩ := by kernel_rfl
theorem bi89_2 : bi Tryz.prog 89 2 = some ⟨2, 1, false⟩ := by kernel_rfl
theorem fi89_3 : fi Tryz.prog 89 3 = some ⟨3, 1, false⟩ := by kernel_rfl
theorem bi89_3 : bi Tryz.prog 89 3 = some ⟨3, 1, false⟩ := by kernel_rfl
theorem ti90 : ti Tryz.prog 90 = some ⟨.fn, 1, 8, [.nilFunc]⟩ := by kernel_rfl
theorem ti91 : ti Tryz.prog 91 = some ⟨.fn, 1, 8, [.nilFunc]⟩ := by kernel_rfl
theorem ti92 : ti Tryz.prog 92 = some ⟨.fn, 1, 8, [.nilFunc]⟩ := by kernel_rfl
theorem ti93 : ti Tryz.prog 93 = some ⟨.slc 39, 1, 24, [.slice none 0 0]⟩ := by kernel_rfl
theorem ti95 : ti Tryz.prog 95 = some ⟨.fn, 1, 8, [.nilFunc]⟩ := by kernel_rfl
theorem ti96 : ti Tryz.prog 96 = some ⟨.fn, 1, 8, [.nilFunc]⟩ := by kernel_rfl
theorem ti98 : ti Tryz.prog 98 = some ⟨.fn, 1, 8, [.nilFunc]⟩ := by kernel_rfl
theorem ti99 : ti Tryz.prog 99 = some ⟨.fn, 1, 8, [.nilFunc]⟩ := by kernel_rfl
theorem ti100 : ti Tryz.prog 100 = some ⟨.fn, 1, 8, [.nilFunc]⟩ := by kernel_rfl
theorem ti101 : ti Tryz.prog 101 = some ⟨.fn, 1, 8, [.nilFunc]⟩ := by kernel_rfl
theorem ti102 : ti Tryz.prog 102 = some ⟨.fn, 1, 8, [.nilFunc]⟩ := by kernel_rfl
theorem ti103 : ti Tryz.prog 103 = some ⟨.fn, 1, 8, [.nilFunc]⟩ := by kernel_rfl
theorem ti104 : ti Tryz.prog 104 = some ⟨.fn, 1, 8, [.nilFunc]⟩ := by kernel_rfl
theorem ti105 : ti Tryz.prog 105 = some ⟨.fn, 1, 8, [.nilFunc]⟩ := by kernel_rfl
theorem ti106 : ti Tryz.prog 106 = some ⟨.fn, 1, 8, [.nilFunc]⟩ := by kernel_rfl
theorem ti107 : ti Tryz.prog 107 = some ⟨.fn, 1, 8, [.nilFunc]⟩ := by kernel_rfl
theorem ti108 : ti Tryz.prog 108 = some ⟨.fn, 1, 8, [.nilFunc]⟩ := by kernel_rfl
theorem ti109 : ti Tryz.prog 109 = some ⟨.fn, 1, 8, [.nilFunc]⟩ := by kernel_rfl
theorem ti110 : ti Tryz.prog 110 = some ⟨.fn, 1, 8, [.nilFunc]⟩ := by kernel_rfl
theorem ti111 : ti Tryz.prog 111 = some ⟨.fn, 1, 8, [.nilFunc]⟩ := by kernel_rfl
theorem ti112 : ti Tryz.prog 112 = some ⟨.slc 9, 1, 24, [.slice none 0 0]⟩ := by kernel_rfl
theorem ti113 : ti Tryz.prog 113 = some ⟨.fn, 1, 8, [.nilFunc]⟩ := by kernel_rfl
theorem ti114 : ti Tryz.prog 114 = some ⟨.int .u64, 1, 8, [.int .u64 0]⟩ := by kernel_rfl
theorem ti115 : ti Tryz.prog 115 = some ⟨.ptr 160, 1, 8, [.pointer none]⟩ := by kernel_rfl
theorem ti117 : ti Tryz.prog 117 = some ⟨.fn, 1, 8, [.nilFunc]⟩ := by kernel_rfl
theorem ti118 : ti Tryz.prog 118 = some ⟨.fn, 1, 8, [.nilFunc]⟩ := by kernel_rfl
theorem ti119 : ti Tryz.prog 119 = some ⟨.fn, 1, 8, [.nilFunc]⟩ := by kernel_rfl
theorem ti120 : ti Tryz.prog 120 = some ⟨.fn, 1, 8, [.nilFunc]⟩ := by kernel_rfl
theorem ti121 : ti Tryz.prog 121 = some ⟨.fn, 1, 8, [.nilFunc]⟩ := by kernel_rfl
theorem ti123 : ti Tryz.prog 123 = some ⟨.fn, 1, 8, [.nilFunc]⟩ := by kernel_rfl
theorem ti124 : ti Tryz.prog 124 = some ⟨.ptr 126, 1, 8, [.pointer none]⟩ := by kernel_rfl
theorem ti125 : ti Tryz.prog 125 = some ⟨.st [(0, 22, true), (1, 3, true), (2, 4, true), (3, 4, true)], 4, 40, [.slice none 0 0, .int .i64 0, .bool false, .bool false]⟩ := by kernel_rfl
theorem ti126 : ti Tryz.prog 126 = some ⟨.st [(0, 22, true), (1, 3, true), (2, 4, true), (3, 4, true)], 4, 40, [.slice none 0 0, .int .i64 0, .bool false, .bool false]⟩ := by kernel_rfl
theorem st126 : stOk Tryz.prog 126 = true := by kernel_rfl
theorem fi126_0 : fi Tryz.prog 126 0 = some ⟨0, 1, false⟩ := by kernel_rfl
theorem bi126_0 : bi Tryz.prog 126 0 = some ⟨0, 1, false⟩ := by kernel_rfl
theorem fi126_1 : fi Tryz.prog 126 1 = some ⟨1, 1, false⟩ := by kernel_rfl
theorem bi126_1 : bi Tryz.prog 126 1 = some ⟨1, 1, false⟩ := by kernel_rfl
theorem fi126_2 : fi Tryz.prog 126 2 = some ⟨2, 1, false⟩ := by kernel_rfl
theorem bi126_2 : bi Tryz.prog 126 2 = some ⟨2, 1, false⟩ := by kernel_rfl
theorem fi126_3 : fi Tryz.prog 126 3 = some ⟨3, 1, false⟩ := by kernel_rfl
theorem bi126_3 : bi Tryz.prog 126 3 = some ⟨3, 1, false⟩ := by kernel_rfl
theorem ti127 : ti Tryz.prog 127 = some ⟨.fn, 1, 8, [.nilFunc]⟩ := by kernel_rfl
theorem ti128 : ti Tryz.prog 128 = some ⟨.fn, 1, 8, [.nilFunc]⟩ := by kernel_rfl
theorem ti129 : ti Tryz.prog 129 = some ⟨.fn, 1, 8, [.nilFunc]⟩ := by kernel_rfl
theorem ti131 : ti Tryz.prog 131 = some ⟨.fn, 1, 8, [.nilFunc]⟩ := by kernel_rfl
theorem ti132 : ti Tryz.prog 132 = some ⟨.ptr 134, 1, 8, [.pointer none]⟩ := by kernel_rfl
theorem ti133 : ti Tryz.prog 133 = some ⟨.st [(0, 22, true), (1, 3, true)], 2, 32, [.slice none 0 0, .int .i64 0]⟩ := by kernel_rfl
theorem ti134 : ti Tryz.prog 134 = some ⟨.st [(0, 22, true), (1, 3, true)], 2, 32, [.slice none 0 0, .int .i64 0]⟩ := by kernel_rfl
theorem st134 : stOk Tryz.prog 134 = true := by kernel_rfl
theorem fi134_0 : fi Tryz.prog 134 0 = some ⟨0, 1, false⟩ := by kernel_rfl
theorem bi134_0 : bi Tryz.prog 134 0 = some ⟨0, 1, false⟩ := by kernel_rfl
theorem fi134_1 : fi Tryz.prog 134 1 = some ⟨1, 1, false⟩ := by kernel_rfl
theorem bi134_1 : bi Tryz.prog 134 1 = some ⟨1, 1, false⟩ := by kernel_rfl
theorem ti135 : ti Tryz.prog 135 = some ⟨.fn, 1, 8, [.nilFunc]⟩ := by kernel_rfl
theorem ti136 : ti Tryz.prog 136 = some ⟨.fn, 1, 8, [.nilFunc]⟩ := by kernel_rfl
theorem ti137 : ti Tryz.prog 137 = some ⟨.fn, 1, 8, [.nilFunc]⟩ := by kernel_rfl
theorem ti139 : ti Tryz.prog 139 = some ⟨.fn, 1, 8, [.nilFunc]⟩ := by kernel_rfl
theorem ti141 : ti Tryz.prog 141 = some ⟨.fn, 1, 8, [.nilFunc]⟩ := by kernel_rfl
theorem ti142 : ti Tryz.prog 142 = some ⟨.st [(0, 29, true), (3, 3, true), (4, 3, true), (5, 3, true)], 6, 72, [.string { data := #[] }, .string { data := #[] }, .string { data := #[] }, .int .i64 0, .int .i64 0, .int .i64 0]⟩ := by kernel_rfl
theorem ti143 : ti Tryz.prog 143 = some ⟨.st [(0, 29, true), (3, 3, true), (4, 3, true), (5, 3, true)], 6, 72, [.string { data := #[] }, .string { data := #[] }, .string { data := #[] }, .int .i64 0, .int .i64 0, .int .i64 0]⟩ := by kernel_rfl
theorem st143 : stOk Tryz.prog 143 = true := by kernel_rfl
theorem eq143 : eqOk Tryz.prog 143 = true := by kernel_rfl
theorem fi143_0 : fi Tryz.prog 143 0 = some ⟨0, 3, true⟩ := by kernel_rfl
theorem bi143_0 : bi Tryz.prog 143 0 = some ⟨0, 3, true⟩ := by kernel_rfl
theorem fi143_1 : fi Tryz.prog 143 1 = some ⟨3, 1, false⟩ := by kernel_rfl
theorem bi143_1 : bi Tryz.prog 143 1 = some ⟨3, 1, false⟩ := by kernel_rfl
theorem fi143_2 : fi Tryz.prog 143 2 = some ⟨4, 1, false⟩ := by kernel_rfl
theorem bi143_2 : bi Tryz.prog 143 2 = some ⟨4, 1, false⟩ := by kernel_rfl
theorem fi143_3 : fi Tryz.prog 143 3 = some ⟨5, 1, false⟩ := by kernel_rfl
theorem bi143_3 : bi Tryz.prog 143 3 = some ⟨5, 1, false⟩ := by kernel_rfl
theorem ti144 : ti Tryz.prog 144 = some ⟨.fn, 1, 8, [.nilFunc]⟩ := by kernel_rfl
theorem ti146 : ti Tryz.prog 146 = some ⟨.fn, 1, 8, [.nilFunc]⟩ := by kernel_rfl
theorem ti147 : ti Tryz.prog 147 = some ⟨.fn, 1, 8, [.nilFunc]⟩ := by kernel_rfl
theorem ti148 : ti Tryz.prog 148 = some ⟨.fn, 1, 8, [.nilFunc]⟩ := by kernel_rfl
theorem ti149 : ti Tryz.prog 149 = some ⟨.fn, 1, 8, [.nilFunc]⟩ := by kernel_rfl
theorem ti150 : ti Tryz.prog 150 = some ⟨.fn, 1, 8, [.nilFunc]⟩ := by kernel_rfl
theorem ti151 : ti Tryz.prog 151 = some ⟨.fn, 1, 8, [.nilFunc]⟩ := by kernel_rfl
theorem ti152 : ti Tryz.prog 152 = some ⟨.fn, 1, 8, [.nilFunc]⟩ := by kernel_rfl
theorem ti153 : ti Tryz.prog 153 = some ⟨.fn, 1, 8, [.nilFunc]⟩ := by kernel_rfl
theorem ti154 : ti Tryz.prog 154 = some ⟨.fn, 1, 8, [.nilFunc]⟩ := by kernel_rfl
theorem ti155 : ti Tryz.prog 155 = some ⟨.fn, 1, 8, [.nilFunc]⟩ := by kernel_rfl
theorem ti156 : ti Tryz.prog 156 = some ⟨.fn, 1, 8, [.nilFunc]⟩ := by kernel_rfl
theorem ti158 : ti Tryz.prog 158 = some ⟨.fn, 1, 8, [.nilFunc]⟩ := by kernel_rfl
theorem ti159 : ti Tryz.prog 159 = some ⟨.st [(0, 22, true), (1, 3, true), (2, 4, true), (3, 4, true)], 4, 40, [.slice none 0 0, .int .i64 0, .bool false, .bool false]⟩ := by kernel_rfl
theorem ti160 : ti Tryz.prog 160 = some ⟨.st [(0, 22, true), (1, 3, true), (2, 4, true), (3, 4, true)], 4, 40, [.slice none 0 0, .int .i64 0, .bool false, .bool false]⟩ := by kernel_rfl
theorem st160 : stOk Tryz.prog 160 = true := by kernel_rfl
theorem fi160_0 : fi Tryz.prog 160 0 = some ⟨0, 1, false⟩ := by kernel_rfl
theorem bi160_0 : bi Tryz.prog 160 0 = some ⟨0, 1, false⟩ := by kernel_rfl
theorem fi160_1 : fi Tryz.prog 160 1 = some ⟨1, 1, false⟩ := by kernel_rfl
theorem bi160_1 : bi Tryz.prog 160 1 = some ⟨1, 1, false⟩ := by kernel_rfl
theorem fi160_2 : fi Tryz.prog 160 2 = some ⟨2, 1, false⟩ := by kernel_rfl
theorem bi160_2 : bi Tryz.prog 160 2 = some ⟨2, 1, false⟩ := by kernel_rfl
theorem fi160_3 : fi Tryz.prog 160 3 = some ⟨3, 1, false⟩ := by kernel_rfl
theorem bi160_3 : bi Tryz.prog 160 3 = some ⟨3, 1, false⟩ := by kernel_rfl
theorem ti161 : ti Tryz.prog 161 = some ⟨.fn, 1, 8, [.nilFunc]⟩ := by kernel_rfl
theorem ti162 : ti Tryz.prog 162 = some ⟨.fn, 1, 8, [.nilFunc]⟩ := by kernel_rfl
theorem ti164 : ti Tryz.prog 164 = some ⟨.fn, 1, 8, [.nilFunc]⟩ := by kernel_rfl
theorem ti165 : ti Tryz.prog 165 = some ⟨.fn, 1, 8, [.nilFunc]⟩ := by kernel_rfl
theorem ti166 : ti Tryz.prog 166 = some ⟨.fn, 1, 8, [.nilFunc]⟩ := by kernel_rfl
theorem ti167 : ti Tryz.prog 167 = some ⟨.fn, 1, 8, [.nilFunc]⟩ := by kernel_rfl
theorem ti169 : ti Tryz.prog 169 = some ⟨.fn, 1, 8, [.nilFunc]⟩ := by kernel_rfl
theorem ti170 : ti Tryz.prog 170 = some ⟨.fn, 1, 8, [.nilFunc]⟩ := by kernel_rfl
theorem ti171 : ti Tryz.prog 171 = some ⟨.slc 3, 1, 24, [.slice none 0 0]⟩ := by kernel_rfl
theorem ti172 : ti Tryz.prog 172 = some ⟨.fn, 1, 8, [.nilFunc]⟩ := by kernel_rfl
theorem ti173 : ti Tryz.prog 173 = some ⟨.fn, 1, 8, [.nilFunc]⟩ := by kernel_rfl
theorem ti175 : ti Tryz.prog 175 = some ⟨.fn, 1, 8, [.nilFunc]⟩ := by kernel_rfl
theorem ti176 : ti Tryz.prog 176 = some ⟨.fn, 1, 8, [.nilFunc]⟩ := by kernel_rfl
theorem ti177 : ti Tryz.prog 177 = some ⟨.fn, 1, 8, [.nilFunc]⟩ := by kernel_rfl
theorem ti178 : ti Tryz.prog 178 = some ⟨.arr 3 3, 3, 24, [.int .i64 0, .int .i64 0, .int .i64 0]⟩ := by kernel_rfl
theorem st178 : stOk Tryz.prog 178 = true := by kernel_rfl
theorem bi178_0 : bi Tryz.prog 178 0 = some ⟨0, 1, false⟩ := by kernel_rfl
theorem bi178_1 : bi Tryz.prog 178 1 = some ⟨1, 1, false⟩ := by kernel_rfl
theorem bi178_2 : bi Tryz.prog 178 2 = some ⟨2, 1, false⟩ := by kernel_rfl
theorem ti179 : ti Tryz.prog 179 = some ⟨.fn, 1, 8, [.nilFunc]⟩ := by kernel_rfl
theorem ti180 : ti Tryz.prog 180 = some ⟨.slc 29, 1, 24, [.slice none 0 0]⟩ := by kernel_rfl
theorem ti181 : ti Tryz.prog 181 = some ⟨.fn, 1, 8, [.nilFunc]⟩ := by kernel_rfl
theorem ti182 : ti Tryz.prog 182 = some ⟨.fn, 1, 8, [.nilFunc]⟩ := by kernel_rfl
theorem ti183 : ti Tryz.prog 183 = some ⟨.fn, 1, 8, [.nilFunc]⟩ := by kernel_rfl
theorem ti184 : ti Tryz.prog 184 = some ⟨.fn, 1, 8, [.nilFunc]⟩ := by kernel_rfl
theorem ti186 : ti Tryz.prog 186 = some ⟨.fn, 1, 8, [.nilFunc]⟩ := by kernel_rfl
theorem ti187 : ti Tryz.prog 187 = some ⟨.fn, 1, 8, [.nilFunc]⟩ := by kernel_rfl
theorem ti188 : ti Tryz.prog 188 = some ⟨.fn, 1, 8, [.nilFunc]⟩ := by kernel_rfl
theorem ti189 : ti Tryz.prog 189 = some ⟨.fn, 1, 8, [.nilFunc]⟩ := by kernel_rfl
theorem ti190 : ti Tryz.prog 190 = some ⟨.fn, 1, 8, [.nilFunc]⟩ := by kernel_rfl
theorem ti191 : ti Tryz.prog 191 = some ⟨.arr 3 9, 3, 48, [.string { data := #[] }, .string { data := #[] }, .string { data := #[] }]⟩ := by kernel_rfl
theorem st191 : stOk Tryz.prog 191 = true := by kernel_rfl
theorem bi191_0 : bi Tryz.prog 191 0 = some ⟨0, 1, false⟩ := by kernel_rfl
theorem bi191_1 : bi Tryz.prog 191 1 = some ⟨1, 1, false⟩ := by kernel_rfl
theorem bi191_2 : bi Tryz.prog 191 2 = some ⟨2, 1, false⟩ := by kernel_rfl
theorem ti192 : ti Tryz.prog 192 = some ⟨.fn, 1, 8, [.nilFunc]⟩ := by kernel_rfl
theorem ti193 : ti Tryz.prog 193 = some ⟨.fn, 1, 8, [.nilFunc]⟩ := by kernel_rfl
theorem ti194 : ti Tryz.prog 194 = some ⟨.fn, 1, 8, [.nilFunc]⟩ := by kernel_rfl
theorem ti195 : ti Tryz.prog 195 = some ⟨.fn, 1, 8, [.nilFunc]⟩ := by kernel_rfl
theorem ti196 : ti Tryz.prog 196 = some ⟨.st [(0, 3, true), (1, 39, true), (2, 22, true)], 3, 40, [.int .i64 0, .int .u64 0, .slice none 0 0]⟩ := by kernel_rfl
theorem ti197 : ti Tryz.prog 197 = some ⟨.st [(0, 3, true), (1, 39, true), (2, 22, true)], 3, 40, [.int .i64 0, .int .u64 0, .slice none 0 0]⟩ := by kernel_rfl
theorem st197 : stOk Tryz.prog 197 = true := by kernel_rfl
theorem fi197_0 : fi Tryz.prog 197 0 = some ⟨0, 1, false⟩ := by kernel_rfl
theorem bi197_0 : bi Tryz.prog 197 0 = some ⟨0, 1, false⟩ := by kernel_rfl
theorem fi197_1 : fi Tryz.prog 197 1 = some ⟨1, 1, false⟩ := by kernel_rfl
theorem bi197_1 : bi Tryz.prog 197 1 = some ⟨1, 1, false⟩ := by kernel_rfl
theorem fi197_2 : fi Tryz.prog 197 2 = some ⟨2, 1, false⟩ := by kernel_rfl
theorem bi197_2 : bi Tryz.prog 197 2 = some ⟨2, 1, false⟩ := by kernel_rfl
theorem ti199 : ti Tryz.prog 199 = some ⟨.fn, 1, 8, [.nilFunc]⟩ := by kernel_rfl
theorem ti200 : ti Tryz.prog 200 = some ⟨.fn, 1, 8, [.nilFunc]⟩ := by kernel_rfl
theorem ti202 : ti Tryz.prog 202 = some ⟨.fn, 1, 8, [.nilFunc]⟩ := by kernel_rfl
theorem ti210 : ti Tryz.prog 210 = some ⟨.fn, 1, 8, [.nilFunc]⟩ := by kernel_rfl
theorem ti211 : ti Tryz.prog 211 = some ⟨.ptr 5, 1, 8, [.pointer none]⟩ := by kernel_rfl
attribute [go_sem] ti1 ti2 ti3 ti4 ti5 ti9 ti12 ti13 ti20 ti21 ti22 ti23 ti24 ti25 ti27 ti28 ti29 st29 eq29 fi29_0 bi29_0 fi29_1 bi29_1 fi29_2 bi29_2 ti30 ti31 st31 eq31 fi31_0 bi31_0 fi31_1 bi31_1 fi31_2 bi31_2 fi31_3 bi31_3 fi31_4 bi31_4 fi31_5 bi31_5 ti32 ti33 ti34 ti35 st35 fi35_0 bi35_0 fi35_1 bi35_1 fi35_2 bi35_2 fi35_3 bi35_3 fi35_4 bi35_4 fi35_5 bi35_5 ti36 ti37 ti38 ti39 ti40 ti41 st41 fi41_0 bi41_0 fi41_1 bi41_1 fi41_2 bi41_2 fi41_3 bi41_3 fi41_4 bi41_4 fi41_5 bi41_5 ti42 ti43 ti44 ti45 ti46 st46 eq46 fi46_0 bi46_0 fi46_1 bi46_1 fi46_2 bi46_2 fi46_3 bi46_3 fi46_4 bi46_4 ti47 ti48 ti50 ti52 ti53 ti55 ti56 ti58 ti59 ti60 ti61 st61 fi61_0 bi61_0 fi61_1 bi61_1 fi61_2 bi61_2 fi61_3 bi61_3 fi61_4 bi61_4 fi61_5 bi61_5 ti62 ti63 ti64 st64 eq64 fi64_0 bi64_0 fi64_1 bi64_1 fi64_2 bi64_2 fi64_3 bi64_3 fi64_4 bi64_4 fi64_5 bi64_5 fi64_6 bi64_6 fi64_7 bi64_7 ti65 ti66 ti67 st67 fi67_0 bi67_0 fi67_1 bi67_1 fi67_2 bi67_2 fi67_3 bi67_3 fi67_4 bi67_4 fi67_5 bi67_5 ti68 ti69 ti70 ti71 ti72 st72 fi72_0 bi72_0 fi72_1 bi72_1 fi72_2 bi72_2 fi72_3 bi72_3 fi72_4 bi72_4 ti73 ti74 ti75 st75 eq75 fi75_0 bi75_0 fi75_1 bi75_1 fi75_2 bi75_2 ti76 ti78 ti79 ti81 ti82 ti84 ti86 ti87 ti88 ti89 st89 fi89_0 bi89_0 fi89_1 bi89_1 fi89_2 bi89_2 fi89_3 bi89_3 ti90 ti91 ti92 ti93 ti95 ti96 ti98 ti99 ti100 ti101 ti102 ti103 ti104 ti105 ti106 ti107 ti108 ti109 ti110 ti111 ti112 ti113 ti114 ti115 ti117 ti118 ti119 ti120 ti121 ti123 ti124 ti125 ti126 st126 fi126_0 bi126_0 fi126_1 bi126_1 fi126_2 bi126_2 fi126_3 bi126_3 ti127 ti128 ti129 ti131 ti132 ti133 ti134 st134 fi134_0 bi134_0 fi134_1 bi134_1 ti135 ti136 ti137 ti139 ti141 ti142 ti143 st143 eq143 fi143_0 bi143_0 fi143_1 bi143_1 fi143_2 bi143_2 fi143_3 bi143_3 ti144 ti146 ti147 ti148 ti149 ti150 ti151 ti152 ti153 ti154 ti155 ti156 ti158 ti159 ti160 st160 fi160_0 bi160_0 fi160_1 bi160_1 fi160_2 bi160_2 fi160_3 bi160_3 ti161 ti162 ti164 ti165 ti166 ti167 ti169 ti170 ti171 ti172 ti173 ti175 ti176 ti177 ti178 st178 bi178_0 bi178_1 bi178_2 ti179 ti180 ti181 ti182 ti183 ti184 ti186 ti187 ti188 ti189 ti190 ti191 st191 bi191_0 bi191_1 bi191_2 ti192 ti193 ti194 ti195 ti196 ti197 st197 fi197_0 bi197_0 fi197_1 bi197_1 fi197_2 bi197_2 ti199 ti200 ti202 ti210 ti211
theorem mixed : Tryz.prog.follows .mixedOrders = true := by kernel_rfl
end Go.Proofs.YtghnigbihllnmaaGreat.Ty
