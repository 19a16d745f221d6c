/- What the logic has to know of the types of this translation: closed facts, printed by a program of this claim. No condition. -/
import Derived.Test.YtghnigbihllnmaaProg
import Derived.Test.YtghnigbihllnmaaHlB
import Derived.KernelRfl
import Derived.Attr
set_option linter.unusedVariables false
namespace Go.Proofs.Ytghnigbihllnmaa.Ty
open Go Go.Proofs Go.Proofs.Ytghnigbihllnmaa.Hl
theorem ti1 : ti Try.prog 1 = some ⟨.fn, 1, 8, [.nilFunc]⟩ := by kernel_rfl
theorem ti2 : ti Try.prog 2 = some ⟨.int .i64, 1, 8, [.int .i64 0]⟩ := by kernel_rfl
theorem ti3 : ti Try.prog 3 = some ⟨.int .i64, 1, 8, [.int .i64 0]⟩ := by kernel_rfl
theorem ti4 : ti Try.prog 4 = some ⟨.bool, 1, 1, [.bool false]⟩ := by kernel_rfl
theorem ti5 : ti Try.prog 5 = some ⟨.int .u8, 1, 1, [.int .u8 0]⟩ := by kernel_rfl
theorem ti9 : ti Try.prog 9 = some ⟨.str, 1, 16, [.string { data := #[] }]⟩ := by kernel_rfl
theorem ti12 : ti Try.prog 12 = some ⟨.int .u64, 1, 8, [.int .u64 0]⟩ := by kernel_rfl
theorem ti13 : ti Try.prog 13 = some ⟨.st [(0, 9, true), (1, 12, true)], 2, 24, [.string { data := #[] }, .int .u64 0]⟩ := by kernel_rfl
theorem ti20 : ti Try.prog 20 = some ⟨.iface, 1, 16, [.nilIface]⟩ := by kernel_rfl
theorem ti21 : ti Try.prog 21 = some ⟨.int .i32, 1, 4, [.int .i32 0]⟩ := by kernel_rfl
theorem ti22 : ti Try.prog 22 = some ⟨.slc 5, 1, 24, [.slice none 0 0]⟩ := by kernel_rfl
theorem ti23 : ti Try.prog 23 = some ⟨.st [(0, 4, true), (1, 4, true), (2, 3, true), (3, 9, true), (4, 22, true), (5, 22, true)], 6, 80, [.bool false, .bool false, .int .i64 0, .string { data := #[] }, .slice none 0 0, .slice none 0 0]⟩ := by kernel_rfl
theorem ti24 : ti Try.prog 24 = some ⟨.st [(0, 4, true), (1, 4, true), (2, 3, true), (3, 9, true), (4, 22, true), (5, 22, true)], 6, 80, [.bool false, .bool false, .int .i64 0, .string { data := #[] }, .slice none 0 0, .slice none 0 0]⟩ := by kernel_rfl
theorem st24 : stOk Try.prog 24 = true := by kernel_rfl
theorem fi24_0 : fi Try.prog 24 0 = some ⟨0, 1, false⟩ := by kernel_rfl
theorem bi24_0 : bi Try.prog 24 0 = some ⟨0, 1, false⟩ := by kernel_rfl
theorem fi24_1 : fi Try.prog 24 1 = some ⟨1, 1, false⟩ := by kernel_rfl
theorem bi24_1 : bi Try.prog 24 1 = some ⟨1, 1, false⟩ := by kernel_rfl
theorem fi24_2 : fi Try.prog 24 2 = some ⟨2, 1, false⟩ := by kernel_rfl
theorem bi24_2 : bi Try.prog 24 2 = some ⟨2, 1, false⟩ := by kernel_rfl
theorem fi24_3 : fi Try.prog 24 3 = some ⟨3, 1, false⟩ := by kernel_rfl
theorem bi24_3 : bi Try.prog 24 3 = some ⟨3, 1, false⟩ := by kernel_rfl
theorem fi24_4 : fi Try.prog 24 4 = some ⟨4, 1, false⟩ := by kernel_rfl
theorem bi24_4 : bi Try.prog 24 4 = some ⟨4, 1, false⟩ := by kernel_rfl
theorem fi24_5 : fi Try.prog 24 5 = some ⟨5, 1, false⟩ := by kernel_rfl
theorem bi24_5 : bi Try.prog 24 5 = some ⟨5, 1, false⟩ := by kernel_rfl
theorem ti25 : ti Try.prog 25 = some ⟨.st [(0, 4, true), (1, 4, true), (2, 5, true), (3, 5, true), (4, 22, true), (5, 22, true)], 6, 56, [.bool false, .bool false, .int .u8 0, .int .u8 0, .slice none 0 0, .slice none 0 0]⟩ := by kernel_rfl
theorem ti26 : ti Try.prog 26 = some ⟨.st [(0, 4, true), (1, 4, true), (2, 5, true), (3, 5, true), (4, 22, true), (5, 22, true)], 6, 56, [.bool false, .bool false, .int .u8 0, .int .u8 0, .slice none 0 0, .slice none 0 0]⟩ := by kernel_rfl
theorem st26 : stOk Try.prog 26 = true := by kernel_rfl
theorem fi26_0 : fi Try.prog 26 0 = some ⟨0, 1, false⟩ := by kernel_rfl
theorem bi26_0 : bi Try.prog 26 0 = some ⟨0, 1, false⟩ := by kernel_rfl
theorem fi26_1 : fi Try.prog 26 1 = some ⟨1, 1, false⟩ := by kernel_rfl
theorem bi26_1 : bi Try.prog 26 1 = some ⟨1, 1, false⟩ := by kernel_rfl
theorem fi26_2 : fi Try.prog 26 2 = some ⟨2, 1, false⟩ := by kernel_rfl
theorem bi26_2 : bi Try.prog 26 2 = some ⟨2, 1, false⟩ := by kernel_rfl
theorem fi26_3 : fi Try.prog 26 3 = some ⟨3, 1, false⟩ := by kernel_rfl
theorem bi26_3 : bi Try.prog 26 3 = some ⟨3, 1, false⟩ := by kernel_rfl
theorem fi26_4 : fi Try.prog 26 4 = some ⟨4, 1, false⟩ := by kernel_rfl
theorem bi26_4 : bi Try.prog 26 4 = some ⟨4, 1, false⟩ := by kernel_rfl
theorem fi26_5 : fi Try.prog 26 5 = some ⟨5, 1, false⟩ := by kernel_rfl
theorem bi26_5 : bi Try.prog 26 5 = some ⟨5, 1, false⟩ := by kernel_rfl
theorem ti27 : ti Try.prog 27 = some ⟨.fn, 1, 8, [.nilFunc]⟩ := by kernel_rfl
theorem ti28 : ti Try.prog 28 = some ⟨.fn, 1, 8, [.nilFunc]⟩ := by kernel_rfl
theorem ti29 : ti Try.prog 29 = some ⟨.fn, 1, 8, [.nilFunc]⟩ := by kernel_rfl
theorem ti30 : ti Try.prog 30 = some ⟨.slc 24, 1, 24, [.slice none 0 0]⟩ := by kernel_rfl
theorem ti31 : ti Try.prog 31 = some ⟨.int .i64, 1, 8, [.int .i64 0]⟩ := by kernel_rfl
theorem ti33 : ti Try.prog 33 = some ⟨.fn, 1, 8, [.nilFunc]⟩ := by kernel_rfl
theorem ti35 : ti Try.prog 35 = some ⟨.fn, 1, 8, [.nilFunc]⟩ := by kernel_rfl
theorem ti36 : ti Try.prog 36 = some ⟨.st [(0, 24, true), (6, 3, true), (7, 3, true), (8, 9, true), (9, 9, true)], 10, 128, [.bool false, .bool false, .int .i64 0, .string { data := #[] }, .slice none 0 0, .slice none 0 0, .int .i64 0, .int .i64 0, .string { data := #[] }, .string { data := #[] }]⟩ := by kernel_rfl
theorem ti37 : ti Try.prog 37 = some ⟨.st [(0, 24, true), (6, 3, true), (7, 3, true), (8, 9, true), (9, 9, true)], 10, 128, [.bool false, .bool false, .int .i64 0, .string { data := #[] }, .slice none 0 0, .slice none 0 0, .int .i64 0, .int .i64 0, .string { data := #[] }, .string { data := #[] }]⟩ := by kernel_rfl
theorem st37 : stOk Try.prog 37 = true := by kernel_rfl
theorem fi37_0 : fi Try.prog 37 0 = some ⟨0, 6, true⟩ := by kernel_rfl
theorem bi37_0 : bi Try.prog 37 0 = some ⟨0, 6, true⟩ := by kernel_rfl
theorem fi37_1 : fi Try.prog 37 1 = some ⟨6, 1, false⟩ := by kernel_rfl
theorem bi37_1 : bi Try.prog 37 1 = some ⟨6, 1, false⟩ := by kernel_rfl
theorem fi37_2 : fi Try.prog 37 2 = some ⟨7, 1, false⟩ := by kernel_rfl
theorem bi37_2 : bi Try.prog 37 2 = some ⟨7, 1, false⟩ := by kernel_rfl
theorem fi37_3 : fi Try.prog 37 3 = some ⟨8, 1, false⟩ := by kernel_rfl
theorem bi37_3 : bi Try.prog 37 3 = some ⟨8, 1, false⟩ := by kernel_rfl
theorem fi37_4 : fi Try.prog 37 4 = some ⟨9, 1, false⟩ := by kernel_rfl
theorem bi37_4 : bi Try.prog 37 4 = some ⟨9, 1, false⟩ := by kernel_rfl
theorem ti39 : ti Try.prog 39 = some ⟨.fn, 1, 8, [.nilFunc]⟩ := by kernel_rfl
theorem ti40 : ti Try.prog 40 = some ⟨.fn, 1, 8, [.nilFunc]⟩ := by kernel_rfl
theorem ti41 : ti Try.prog 41 = some ⟨.fn, 1, 8, [.nilFunc]⟩ := by kernel_rfl
theorem ti42 : ti Try.prog 42 = some ⟨.st [(0, 9, true), (1, 9, true), (2, 9, true)], 3, 48, [.string { data := #[] }, .string { data := #[] }, .string { data := #[] }]⟩ := by kernel_rfl
theorem ti43 : ti Try.prog 43 = some ⟨.st [(0, 9, true), (1, 9, true), (2, 9, true)], 3, 48, [.string { data := #[] }, .string { data := #[] }, .string { data := #[] }]⟩ := by kernel_rfl
theorem st43 : stOk Try.prog 43 = true := by kernel_rfl
theorem eq43 : eqOk Try.prog 43 = true := by kernel_rfl
theorem fi43_0 : fi Try.prog 43 0 = some ⟨0, 1, false⟩ := by kernel_rfl
theorem bi43_0 : bi Try.prog 43 0 = some ⟨0, 1, false⟩ := by kernel_rfl
theorem fi43_1 : fi Try.prog 43 1 = some ⟨1, 1, false⟩ := by kernel_rfl
theorem bi43_1 : bi Try.prog 43 1 = some ⟨1, 1, false⟩ := by kernel_rfl
theorem fi43_2 : fi Try.prog 43 2 = some ⟨2, 1, false⟩ := by kernel_rfl
theorem bi43_2 : bi Try.prog 43 2 = some ⟨2, 1, false⟩ := by kernel_rfl
theorem ti44 : ti Try.prog 44 = some ⟨.int .u64, 1, 8, [.int .u64 0]⟩ := by kernel_rfl
theorem ti45 : ti Try.prog 45 = some ⟨.int .u64, 1, 8, [.int .u64 0]⟩ := by kernel_rfl
theorem ti46 : ti Try.prog 46 = some ⟨.st [(0, 4, true), (1, 43, true), (4, 3, true), (5, 45, true), (6, 3, true), (7, 3, true), (8, 9, true), (9, 9, true)], 10, 120, [.bool false, .string { data := #[] }, .string { data := #[] }, .string { data := #[] }, .int .i64 0, .int .u64 0, .int .i64 0, .int .i64 0, .string { data := #[] }, .string { data := #[] }]⟩ := by kernel_rfl
theorem ti47 : ti Try.prog 47 = some ⟨.st [(0, 4, true), (1, 43, true), (4, 3, true), (5, 45, true), (6, 3, true), (7, 3, true), (8, 9, true), (9, 9, true)], 10, 120, [.bool false, .string { data := #[] }, .string { data := #[] }, .string { data := #[] }, .int .i64 0, .int .u64 0, .int .i64 0, .int .i64 0, .string { data := #[] }, .string { data := #[] }]⟩ := by kernel_rfl
theorem st47 : stOk Try.prog 47 = true := by kernel_rfl
theorem eq47 : eqOk Try.prog 47 = true := by kernel_rfl
theorem fi47_0 : fi Try.prog 47 0 = some ⟨0, 1, false⟩ := by kernel_rfl
theorem bi47_0 : bi Try.prog 47 0 = some ⟨0, 1, false⟩ := by kernel_rfl
theorem fi47_1 : fi Try.prog 47 1 = some ⟨1, 3, true⟩ := by kernel_rfl
theorem bi47_1 : bi Try.prog 47 1 = some ⟨1, 3, true⟩ := by kernel_rfl
theorem fi47_2 : fi Try.prog 47 2 = some ⟨4, 1, false⟩ := by kernel_rfl
theorem bi47_2 : bi Try.prog 47 2 = some ⟨4, 1, false⟩ := by kernel_rfl
theorem fi47_3 : fi Try.prog 47 3 = some ⟨5, 1, false⟩ := by kernel_rfl
theorem bi47_3 : bi Try.prog 47 3 = some ⟨5, 1, false⟩ := by kernel_rfl
theorem fi47_4 : fi Try.prog 47 4 = some ⟨6, 1, false⟩ := by kernel_rfl
theorem bi47_4 : bi Try.prog 47 4 = some ⟨6, 1, false⟩ := by kernel_rfl
theorem fi47_5 : fi Try.prog 47 5 = some ⟨7, 1, false⟩ := by kernel_rfl
theorem bi47_5 : bi Try.prog 47 5 = some ⟨7, 1, false⟩ := by kernel_rfl
theorem fi47_6 : fi Try.prog 47 6 = some ⟨8, 1, false⟩ := by kernel_rfl
theorem bi47_6 : bi Try.prog 47 6 = some ⟨8, 1, false⟩ := by kernel_rfl
theorem fi47_7 : fi Try.prog 47 7 = some ⟨9, 1, false⟩ := by kernel_rfl
theorem bi47_7 : bi Try.prog 47 7 = some ⟨9, 1, false⟩ := by kernel_rfl
theorem ti48 : ti Try.prog 48 = some ⟨.fn, 1, 8, [.nilFunc]⟩ := by kernel_rfl
theorem ti49 : ti Try.prog 49 = some ⟨.slc 37, 1, 24, [.slice none 0 0]⟩ := by kernel_rfl
theorem ti50 : ti Try.prog 50 = some ⟨.fn, 1, 8, [.nilFunc]⟩ := by kernel_rfl
theorem ti51 : ti Try.prog 51 = some ⟨.fn, 1, 8, [.nilFunc]⟩ := by kernel_rfl
theorem ti52 : ti Try.prog 52 = some ⟨.fn, 1, 8, [.nilFunc]⟩ := by kernel_rfl
theorem ti53 : ti Try.prog 53 = some ⟨.st [(0, 4, true), (1, 43, true), (4, 3, true), (5, 31, true), (6, 9, true)], 7, 88, [.bool false, .string { data := #[] }, .string { data := #[] }, .string { data := #[] }, .int .i64 0, .int .i64 0, .string { data := #[] }]⟩ := by kernel_rfl
theorem ti54 : ti Try.prog 54 = some ⟨.st [(0, 4, true), (1, 43, true), (4, 3, true), (5, 31, true), (6, 9, true)], 7, 88, [.bool false, .string { data := #[] }, .string { data := #[] }, .string { data := #[] }, .int .i64 0, .int .i64 0, .string { data := #[] }]⟩ := by kernel_rfl
theorem st54 : stOk Try.prog 54 = true := by kernel_rfl
theorem eq54 : eqOk Try.prog 54 = true := by kernel_rfl
theorem fi54_0 : fi Try.prog 54 0 = some ⟨0, 1, false⟩ := by kernel_rfl
theorem bi54_0 : bi Try.prog 54 0 = some ⟨0, 1, false⟩ := by kernel_rfl
theorem fi54_1 : fi Try.prog 54 1 = some ⟨1, 3, true⟩ := by kernel_rfl
theorem bi54_1 : bi Try.prog 54 1 = some ⟨1, 3, true⟩ := by kernel_rfl
theorem fi54_2 : fi Try.prog 54 2 = some ⟨4, 1, false⟩ := by kernel_rfl
theorem bi54_2 : bi Try.prog 54 2 = some ⟨4, 1, false⟩ := by kernel_rfl
theorem fi54_3 : fi Try.prog 54 3 = some ⟨5, 1, false⟩ := by kernel_rfl
theorem bi54_3 : bi Try.prog 54 3 = some ⟨5, 1, false⟩ := by kernel_rfl
theorem fi54_4 : fi Try.prog 54 4 = some ⟨6, 1, false⟩ := by kernel_rfl
theorem bi54_4 : bi Try.prog 54 4 = some ⟨6, 1, false⟩ := by kernel_rfl
theorem ti55 : ti Try.prog 55 = some ⟨.fn, 1, 8, [.nilFunc]⟩ := by kernel_rfl
theorem ti56 : ti Try.prog 56 = some ⟨.fn, 1, 8, [.nilFunc]⟩ := by kernel_rfl
theorem ti57 : ti Try.prog 57 = some ⟨.slc 54, 1, 24, [.slice none 0 0]⟩ := by kernel_rfl
theorem ti58 : ti Try.prog 58 = some ⟨.fn, 1, 8, [.nilFunc]⟩ := by kernel_rfl
theorem ti59 : ti Try.prog 59 = some ⟨.fn, 1, 8, [.nilFunc]⟩ := by kernel_rfl
theorem ti61 : ti Try.prog 61 = some ⟨.fn, 1, 8, [.nilFunc]⟩ := by kernel_rfl
theorem ti62 : ti Try.prog 62 = some ⟨.fn, 1, 8, [.nilFunc]⟩ := by kernel_rfl
theorem ti63 : ti Try.prog 63 = some ⟨.st [(0, 4, true), (1, 43, true), (4, 3, true), (5, 3, true), (6, 3, true), (7, 22, true)], 8, 104, [.bool false, .string { data := #[] }, .string { data := #[] }, .string { data := #[] }, .int .i64 0, .int .i64 0, .int .i64 0, .slice none 0 0]⟩ := by kernel_rfl
theorem ti64 : ti Try.prog 64 = some ⟨.st [(0, 4, true), (1, 43, true), (4, 3, true), (5, 3, true), (6, 3, true), (7, 22, true)], 8, 104, [.bool false, .string { data := #[] }, .string { data := #[] }, .string { data := #[] }, .int .i64 0, .int .i64 0, .int .i64 0, .slice none 0 0]⟩ := by kernel_rfl
theorem st64 : stOk Try.prog 64 = true := by kernel_rfl
theorem fi64_0 : fi Try.prog 64 0 = some ⟨0, 1, false⟩ := by kernel_rfl
theorem bi64_0 : bi Try.prog 64 0 = some ⟨0, 1, false⟩ := by kernel_rfl
theorem fi64_1 : fi Try.prog 64 1 = some ⟨1, 3, true⟩ := by kernel_rfl
theorem bi64_1 : bi Try.prog 64 1 = some ⟨1, 3, true⟩ := by kernel_rfl
theorem fi64_2 : fi Try.prog 64 2 = some ⟨4, 1, false⟩ := by kernel_rfl
theorem bi64_2 : bi Try.prog 64 2 = some ⟨4, 1, false⟩ := by kernel_rfl
theorem fi64_3 : fi Try.prog 64 3 = some ⟨5, 1, false⟩ := by kernel_rfl
theorem bi64_3 : bi Try.prog 64 3 = some ⟨5, 1, false⟩ := by kernel_rfl
theorem fi64_4 : fi Try.prog 64 4 = some ⟨6, 1, false⟩ := by kernel_rfl
theorem bi64_4 : bi Try.prog 64 4 = some ⟨6, 1, false⟩ := by kernel_rfl
theorem fi64_5 : fi Try.prog 64 5 = some ⟨7, 1, false⟩ := by kernel_rfl
theorem bi64_5 : bi Try.prog 64 5 = some ⟨7, 1, false⟩ := by kernel_rfl
theorem ti65 : ti Try.prog 65 = some ⟨.int .u16, 1, 2, [.int .u16 0]⟩ := by kernel_rfl
theorem ti66 : ti Try.prog 66 = some ⟨.fn, 1, 8, [.nilFunc]⟩ := by kernel_rfl
theorem ti67 : ti Try.prog 67 = some ⟨.slc 64, 1, 24, [.slice none 0 0]⟩ := by kernel_rfl
theorem ti68 : ti Try.prog 68 = some ⟨.fn, 1, 8, [.nilFunc]⟩ := by kernel_rfl
theorem ti70 : ti Try.prog 70 = some ⟨.fn, 1, 8, [.nilFunc]⟩ := by kernel_rfl
theorem ti71 : ti Try.prog 71 = some ⟨.fn, 1, 8, [.nilFunc]⟩ := by kernel_rfl
theorem ti72 : ti Try.prog 72 = some ⟨.fn, 1, 8, [.nilFunc]⟩ := by kernel_rfl
theorem ti73 : ti Try.prog 73 = some ⟨.st [(0, 45, true), (1, 43, true), (4, 3, true), (5, 3, true), (6, 22, true), (7, 3, true)], 8, 104, [.int .u64 0, .string { data := #[] }, .string { data := #[] }, .string { data := #[] }, .int .i64 0, .int .i64 0, .slice none 0 0, .int .i64 0]⟩ := by kernel_rfl
theorem ti74 : ti Try.prog 74 = some ⟨.st [(0, 45, true), (1, 43, true), (4, 3, true), (5, 3, true), (6, 22, true), (7, 3, true)], 8, 104, [.int .u64 0, .string { data := #[] }, .string { data := #[] }, .string { data := #[] }, .int .i64 0, .int .i64 0, .slice none 0 0, .int .i64 0]⟩ := by kernel_rfl
theorem st74 : stOk Try.prog 74 = true := by kernel_rfl
theorem fi74_0 : fi Try.prog 74 0 = some ⟨0, 1, false⟩ := by kernel_rfl
theorem bi74_0 : bi Try.prog 74 0 = some ⟨0, 1, false⟩ := by kernel_rfl
theorem fi74_1 : fi Try.prog 74 1 = some ⟨1, 3, true⟩ := by kernel_rfl
theorem bi74_1 : bi Try.prog 74 1 = some ⟨1, 3, true⟩ := by kernel_rfl
theorem fi74_2 : fi Try.prog 74 2 = some ⟨4, 1, false⟩ := by kernel_rfl
theorem bi74_2 : bi Try.prog 74 2 = some ⟨4, 1, false⟩ := by kernel_rfl
theorem fi74_3 : fi Try.prog 74 3 = some ⟨5, 1, false⟩ := by kernel_rfl
theorem bi74_3 : bi Try.prog 74 3 = some ⟨5, 1, false⟩ := by kernel_rfl
theorem fi74_4 : fi Try.prog 74 4 = some ⟨6, 1, false⟩ := by kernel_rfl
theorem bi74_4 : bi Try.prog 74 4 = some ⟨6, 1, false⟩ := by kernel_rfl
theorem fi74_5 : fi Try.prog 74 5 = some ⟨7, 1, false⟩ := by kernel_rfl
theorem bi74_5 : bi Try.prog 74 5 = some ⟨7, 1, false⟩ := by kernel_rfl
theorem ti75 : ti Try.prog 75 = some ⟨.fn, 1, 8, [.nilFunc]⟩ := by kernel_rfl
theorem ti76 : ti Try.prog 76 = some ⟨.slc 74, 1, 24, [.slice none 0 0]⟩ := by kernel_rfl
theorem ti77 : ti Try.prog 77 = some ⟨.fn, 1, 8, [.nilFunc]⟩ := by kernel_rfl
theorem ti79 : ti Try.prog 79 = some ⟨.fn, 1, 8, [.nilFunc]⟩ := by kernel_rfl
theorem ti80 : ti Try.prog 80 = some ⟨.fn, 1, 8, [.nilFunc]⟩ := by kernel_rfl
theorem ti81 : ti Try.prog 81 = some ⟨.fn, 1, 8, [.nilFunc]⟩ := by kernel_rfl
theorem ti82 : ti Try.prog 82 = some ⟨.st [(0, 22, true), (1, 3, true), (2, 3, true), (3, 3, true)], 4, 48, [.slice none 0 0, .int .i64 0, .int .i64 0, .int .i64 0]⟩ := by kernel_rfl
theorem ti83 : ti Try.prog 83 = some ⟨.st [(0, 22, true), (1, 3, true), (2, 3, true), (3, 3, true)], 4, 48, [.slice none 0 0, .int .i64 0, .int .i64 0, .int .i64 0]⟩ := by kernel_rfl
theorem st83 : stOk Try.prog 83 = true := by kernel_rfl
theorem fi83_0 : fi Try.prog 83 0 = some ⟨0, 1, false⟩ := by kernel_rfl
theorem bi83_0 : bi Try.prog 83 0 = some ⟨0, 1, false⟩ := by kernel_rfl
theorem fi83_1 : fi Try.prog 83 1 = some ⟨1, 1, false⟩ := by kernel_rfl
theorem bi83_1 : bi Try.prog 83 1 = some ⟨1, 1, false⟩ := by kernel_rfl
theorem fi83_2 : fi Try.prog 83 2 = some ⟨2, 1, false⟩ := by kernel_rfl
theorem bi83_2 : bi Try.prog 83 2 = some ⟨2, 1, false⟩ := by kernel_rfl
theorem fi83_3 : fi Try.prog 83 3 = some ⟨3, 1, false⟩ := by kernel_rfl
theorem bi83_3 : bi Try.prog 83 3 = some ⟨3, 1, false⟩ := by kernel_rfl
theorem ti84 : ti Try.prog 84 = some ⟨.fn, 1, 8, [.nilFunc]⟩ := by kernel_rfl
theorem ti85 : ti Try.prog 85 = some ⟨.slc 83, 1, 24, [.slice none 0 0]⟩ := by kernel_rfl
theorem ti86 : ti Try.prog 86 = some ⟨.fn, 1, 8, [.nilFunc]⟩ := by kernel_rfl
theorem ti88 : ti Try.prog 88 = some ⟨.fn, 1, 8, [.nilFunc]⟩ := by kernel_rfl
theorem ti89 : ti Try.prog 89 = some ⟨.fn, 1, 8, [.nilFunc]⟩ := by kernel_rfl
theorem ti90 : ti Try.prog 90 = some ⟨.fn, 1, 8, [.nilFunc]⟩ := by kernel_rfl
theorem ti91 : ti Try.prog 91 = some ⟨.slc 22, 1, 24, [.slice none 0 0]⟩ := by kernel_rfl
theorem ti92 : ti Try.prog 92 = some ⟨.fn, 1, 8, [.nilFunc]⟩ := by kernel_rfl
theorem ti93 : ti Try.prog 93 = some ⟨.fn, 1, 8, [.nilFunc]⟩ := by kernel_rfl
theorem ti94 : ti Try.prog 94 = some ⟨.slc 45, 1, 24, [.slice none 0 0]⟩ := by kernel_rfl
theorem ti95 : ti Try.prog 95 = some ⟨.fn, 1, 8, [.nilFunc]⟩ := by kernel_rfl
theorem ti96 : ti Try.prog 96 = some ⟨.fn, 1, 8, [.nilFunc]⟩ := by kernel_rfl
theorem ti97 : ti Try.prog 97 = some ⟨.fn, 1, 8, [.nilFunc]⟩ := by kernel_rfl
theorem ti98 : ti Try.prog 98 = some ⟨.fn, 1, 8, [.nilFunc]⟩ := by kernel_rfl
theorem ti99 : ti Try.prog 99 = some ⟨.fn, 1, 8, [.nilFunc]⟩ := by kernel_rfl
theorem ti100 : ti Try.prog 100 = some ⟨.st [(0, 3, true), (1, 3, true), (2, 3, true)], 3, 24, [.int .i64 0, .int .i64 0, .int .i64 0]⟩ := by kernel_rfl
theorem ti101 : ti Try.prog 101 = some ⟨.st [(0, 3, true), (1, 3, true), (2, 3, true)], 3, 24, [.int .i64 0, .int .i64 0, .int .i64 0]⟩ := by kernel_rfl
theorem st101 : stOk Try.prog 101 = true := by kernel_rfl
theorem eq101 : eqOk Try.prog 101 = true := by kernel_rfl
theorem fi101_0 : fi Try.prog 101 0 = some ⟨0, 1, false⟩ := by kernel_rfl
theorem bi101_0 : bi Try.prog 101 0 = some ⟨0, 1, false⟩ := by kernel_rfl
theorem fi101_1 : fi Try.prog 101 1 = some ⟨1, 1, false⟩ := by kernel_rfl
theorem bi101_1 : bi Try.prog 101 1 = some ⟨1, 1, false⟩ := by kernel_rfl
theorem fi101_2 : fi Try.prog 101 2 = some ⟨2, 1, false⟩ := by kernel_rfl
theorem bi101_2 : bi Try.prog 101 2 = some ⟨2, 1, false⟩ := by kernel_rfl
theorem ti102 : ti Try.prog 102 = some ⟨.fn, 1, 8, [.nilFunc]⟩ := by kernel_rfl
theorem ti103 : ti Try.prog 103 = some ⟨.fn, 1, 8, [.nilFunc]⟩ := by kernel_rfl
theorem ti104 : ti Try.prog 104 = some ⟨.fn, 1, 8, [.nilFunc]⟩ := by kernel_rfl
theorem ti105 : ti Try.prog 105 = some ⟨.fn, 1, 8, [.nilFunc]⟩ := by kernel_rfl
theorem ti106 : ti Try.prog 106 = some ⟨.fn, 1, 8, [.nilFunc]⟩ := by kernel_rfl
theorem ti107 : ti Try.prog 107 = some ⟨.fn, 1, 8, [.nilFunc]⟩ := by kernel_rfl
theorem ti109 : ti Try.prog 109 = some ⟨.fn, 1, 8, [.nilFunc]⟩ := by kernel_rfl
theorem ti110 : ti Try.prog 110 = some ⟨.ptr 164, 1, 8, [.pointer none]⟩ := by kernel_rfl
theorem ti111 : ti Try.prog 111 = some ⟨.fn, 1, 8, [.nilFunc]⟩ := by kernel_rfl
theorem ti112 : ti Try.prog 112 = some ⟨.fn, 1, 8, [.nilFunc]⟩ := by kernel_rfl
theorem ti113 : ti Try.prog 113 = some ⟨.fn, 1, 8, [.nilFunc]⟩ := by kernel_rfl
theorem ti114 : ti Try.prog 114 = some ⟨.fn, 1, 8, [.nilFunc]⟩ := by kernel_rfl
theorem ti115 : ti Try.prog 115 = some ⟨.fn, 1, 8, [.nilFunc]⟩ := by kernel_rfl
theorem ti116 : ti Try.prog 116 = some ⟨.ptr 118, 1, 8, [.pointer none]⟩ := by kernel_rfl
theorem ti117 : ti Try.prog 117 = some ⟨.st [(0, 22, true), (1, 3, true)], 2, 32, [.slice none 0 0, .int .i64 0]⟩ := by kernel_rfl
theorem ti118 : ti Try.prog 118 = some ⟨.st [(0, 22, true), (1, 3, true)], 2, 32, [.slice none 0 0, .int .i64 0]⟩ := by kernel_rfl
theorem st118 : stOk Try.prog 118 = true := by kernel_rfl
theorem fi118_0 : fi Try.prog 118 0 = some ⟨0, 1, false⟩ := by kernel_rfl
theorem bi118_0 : bi Try.prog 118 0 = some ⟨0, 1, false⟩ := by kernel_rfl
theorem fi118_1 : fi Try.prog 118 1 = some ⟨1, 1, false⟩ := by kernel_rfl
theorem bi118_1 : bi Try.prog 118 1 = some ⟨1, 1, false⟩ := by kernel_rfl
theorem ti119 : ti Try.prog 119 = some ⟨.fn, 1, 8, [.nilFunc]⟩ := by kernel_rfl
theorem ti120 : ti Try.prog 120 = some ⟨.fn, 1, 8, [.nilFunc]⟩ := by kernel_rfl
theorem ti121 : ti Try.prog 121 = some ⟨.fn, 1, 8, [.nilFunc]⟩ := by kernel_rfl
theorem ti122 : ti Try.prog 122 = some ⟨.st [(0, 4, true), (1, 43, true), (4, 3, true), (5, 3, true), (6, 9, true), (7, 9, true)], 8, 104, [.bool false, .string { data := #[] }, .string { data := #[] }, .string { data := #[] }, .int .i64 0, .int .i64 0, .string { data := #[] }, .string { data := #[] }]⟩ := by kernel_rfl
theorem ti123 : ti Try.prog 123 = some ⟨.st [(0, 4, true), (1, 43, true), (4, 3, true), (5, 3, true), (6, 9, true), (7, 9, true)], 8, 104, [.bool false, .string { data := #[] }, .string { data := #[] }, .string { data := #[] }, .int .i64 0, .int .i64 0, .string { data := #[] }, .string { data := #[] }]⟩ := by kernel_rfl
theorem st123 : stOk Try.prog 123 = true := by kernel_rfl
theorem eq123 : eqOk Try.prog 123 = true := by kernel_rfl
theorem fi123_0 : fi Try.prog 123 0 = some ⟨0, 1, false⟩ := by kernel_rfl
theorem bi123_0 : bi Try.prog 123 0 = some ⟨0, 1, false⟩ := by kernel_rfl
theorem fi123_1 : fi Try.prog 123 1 = some ⟨1, 3, true⟩ := by kernel_rfl
theorem bi123_1 : bi Try.prog 123 1 = some ⟨1, 3, true⟩ := by kernel_rfl
theorem fi123_2 : fi Try.prog 123 2 = some ⟨4, 1, false⟩ := by kernel_rfl
theorem bi123_2 : bi Try.prog 123 2 = some ⟨4, 1, false⟩ := by kernel_rfl
theorem fi123_3 : fi Try.prog 123 3 = some ⟨5, 1, false⟩ := by kernel_rfl
theorem bi123_3 : bi Try.prog 123 3 = some ⟨5, 1, false⟩ := by kernel_rfl
theorem fi123_4 : fi Try.prog 123 4 = some ⟨6, 1, false⟩ := by kernel_rfl
theorem bi123_4 : bi Try.prog 123 4 = some ⟨6, 1, false⟩ := by kernel_rfl
theorem fi123_5 : fi Try.prog 123 5 = some ⟨7, 1, false⟩ := by kernel_rfl
theorem bi123_5 : bi Try.prog 123 5 = some ⟨7, 1, false⟩ := by kernel_rfl
theorem ti124 : ti Try.prog 124 = some ⟨.slc 9, 1, 24, [.slice none 0 0]⟩ := by kernel_rfl
theorem ti125 : ti Try.prog 125 = some ⟨.arr 10 9, 10, 160, [.string { data := #[] }, .string { data := #[] }, .string { data := #[] }, .string { data := #[] }, .string { data := #[] }, .string { data := #[] }, .string { data := #[] }, .string { data := #[] }, .string { data := #[] }, .string { data := #[] }]⟩ := by kernel_rfl
theorem st125 : stOk Try.prog 125 = true := by kernel_rfl
theorem bi125_0 : bi Try.prog 125 0 = some ⟨0, 1, false⟩ := by kernel_rfl
theorem bi125_1 : bi Try.prog 125 1 = some ⟨1, 1, false⟩ := by kernel_rfl
theorem bi125_2 : bi Try.prog 125 2 = some ⟨2, 1, false⟩ := by kernel_rfl
theorem bi125_3 : bi Try.prog 125 3 = some ⟨3, 1, false⟩ := by kernel_rfl
theorem bi125_4 : bi Try.prog 125 4 = some ⟨4, 1, false⟩ := by kernel_rfl
theorem bi125_5 : bi Try.prog 125 5 = some ⟨5, 1, false⟩ := by kernel_rfl
theorem bi125_6 : bi Try.prog 125 6 = some ⟨6, 1, false⟩ := by kernel_rfl
theorem bi125_7 : bi Try.prog 125 7 = some ⟨7, 1, false⟩ := by kernel_rfl
theorem bi125_8 : bi Try.prog 125 8 = some ⟨8, 1, false⟩ := by kernel_rfl
theorem bi125_9 : bi Try.prog 125 9 = some ⟨9, 1, false⟩ := by kernel_rfl
theorem ti126 : ti Try.prog 126 = some ⟨.fn, 1, 8, [.nilFunc]⟩ := by kernel_rfl
theorem ti127 : ti Try.prog 127 = some ⟨.fn, 1, 8, [.nilFunc]⟩ := by kernel_rfl
theorem ti128 : ti Try.prog 128 = some ⟨.fn, 1, 8, [.nilFunc]⟩ := by kernel_rfl
theorem ti130 : ti Try.prog 130 = some ⟨.fn, 1, 8, [.nilFunc]⟩ := by kernel_rfl
theorem ti131 : ti Try.prog 131 = some ⟨.fn, 1, 8, [.nilFunc]⟩ := by kernel_rfl
theorem ti132 : ti Try.prog 132 = some ⟨.fn, 1, 8, [.nilFunc]⟩ := by kernel_rfl
theorem ti133 : ti Try.prog 133 = some ⟨.fn, 1, 8, [.nilFunc]⟩ := by kernel_rfl
theorem ti134 : ti Try.prog 134 = some ⟨.fn, 1, 8, [.nilFunc]⟩ := by kernel_rfl
theorem ti135 : ti Try.prog 135 = some ⟨.fn, 1, 8, [.nilFunc]⟩ := by kernel_rfl
theorem ti136 : ti Try.prog 136 = some ⟨.fn, 1, 8, [.nilFunc]⟩ := by kernel_rfl
theorem ti137 : ti Try.prog 137 = some ⟨.arr 3 3, 3, 24, [.int .i64 0, .int .i64 0, .int .i64 0]⟩ := by kernel_rfl
theorem st137 : stOk Try.prog 137 = true := by kernel_rfl
theorem bi137_0 : bi Try.prog 137 0 = some ⟨0, 1, false⟩ := by kernel_rfl
theorem bi137_1 : bi Try.prog 137 1 = some ⟨1, 1, false⟩ := by kernel_rfl
theorem bi137_2 : bi Try.prog 137 2 = some ⟨2, 1, false⟩ := by kernel_rfl
theorem ti138 : ti Try.prog 138 = some ⟨.fn, 1, 8, [.nilFunc]⟩ := by kernel_rfl
theorem ti139 : ti Try.prog 139 = some ⟨.fn, 1, 8, [.nilFunc]⟩ := by kernel_rfl
theorem ti140 : ti Try.prog 140 = some ⟨.fn, 1, 8, [.nilFunc]⟩ := by kernel_rfl
theorem ti141 : ti Try.prog 141 = some ⟨.st [(0, 43, true), (3, 3, true), (4, 3, true), (5, 3, true)], 6, 72, [.string { data := #[] }, .string { data := #[] }, .string { data := #[] }, .int .i64 0, .int .i64 0, .int .i64 0]⟩ := by kernel_rfl
theorem ti142 : ti Try.prog 142 = some ⟨.st [(0, 43, true), (3, 3, true), (4, 3, true), (5, 3, true)], 6, 72, [.string { data := #[] }, .string { data := #[] }, .string { data := #[] }, .int .i64 0, .int .i64 0, .int .i64 0]⟩ := by kernel_rfl
theorem st142 : stOk Try.prog 142 = true := by kernel_rfl
theorem eq142 : eqOk Try.prog 142 = true := by kernel_rfl
theorem fi142_0 : fi Try.prog 142 0 = some ⟨0, 3, true⟩ := by kernel_rfl
theorem bi142_0 : bi Try.prog 142 0 = some ⟨0, 3, true⟩ := by kernel_rfl
theorem fi142_1 : fi Try.prog 142 1 = some ⟨3, 1, false⟩ := by kernel_rfl
theorem bi142_1 : bi Try.prog 142 1 = some ⟨3, 1, false⟩ := by kernel_rfl
theorem fi142_2 : fi Try.prog 142 2 = some ⟨4, 1, false⟩ := by kernel_rfl
theorem bi142_2 : bi Try.prog 142 2 = some ⟨4, 1, false⟩ := by kernel_rfl
theorem fi142_3 : fi Try.prog 142 3 = some ⟨5, 1, false⟩ := by kernel_rfl
theorem bi142_3 : bi Try.prog 142 3 = some ⟨5, 1, false⟩ := by kernel_rfl
theorem ti143 : ti Try.prog 143 = some ⟨.fn, 1, 8, [.nilFunc]⟩ := by kernel_rfl
theorem ti144 : ti Try.prog 144 = some ⟨.int .u64, 1, 8, [.int .u64 0]⟩ := by kernel_rfl
theorem ti145 : ti Try.prog 145 = some ⟨.ptr 147, 1, 8, [.pointer none]⟩ := by kernel_rfl
theorem ti146 : ti Try.prog 146 = some ⟨.st [(0, 22, true), (1, 3, true), (2, 4, true), (3, 4, true)], 4, 40, [.slice none 0 0, .int .i64 0, .bool false, .bool false]⟩ := by kernel_rfl
theorem ti147 : ti Try.prog 147 = some ⟨.st [(0, 22, true), (1, 3, true), (2, 4, true), (3, 4, true)], 4, 40, [.slice none 0 0, .int .i64 0, .bool false, .bool false]⟩ := by kernel_rfl
theorem st147 : stOk Try.prog 147 = true := by kernel_rfl
theorem fi147_0 : fi Try.prog 147 0 = some ⟨0, 1, false⟩ := by kernel_rfl
theorem bi147_0 : bi Try.prog 147 0 = some ⟨0, 1, false⟩ := by kernel_rfl
theorem fi147_1 : fi Try.prog 147 1 = some ⟨1, 1, false⟩ := by kernel_rfl
theorem bi147_1 : bi Try.prog 147 1 = some ⟨1, 1, false⟩ := by kernel_rfl
theorem fi147_2 : fi Try.prog 147 2 = some ⟨2, 1, false⟩ := by kernel_rfl
theorem bi147_2 : bi Try.prog 147 2 = some ⟨2, 1, false⟩ := by kernel_rfl
theorem fi147_3 : fi Try.prog 147 3 = some ⟨3, 1, false⟩ := by kernel_rfl
theorem bi147_3 : bi Try.prog 147 3 = some ⟨3, 1, false⟩ := by kernel_rfl
theorem ti149 : ti Try.prog 149 = some ⟨.fn, 1, 8, [.nilFunc]⟩ := by kernel_rfl
theorem ti150 : ti Try.prog 150 = some ⟨.fn, 1, 8, [.nilFunc]⟩ := by kernel_rfl
theorem ti151 : ti Try.prog 151 = some ⟨.fn, 1, 8, [.nilFunc]⟩ := by kernel_rfl
theorem ti152 : ti Try.prog 152 = some ⟨.fn, 1, 8, [.nilFunc]⟩ := by kernel_rfl
theorem ti153 : ti Try.prog 153 = some ⟨.fn, 1, 8, [.nilFunc]⟩ := by kernel_rfl
theorem ti154 : ti Try.prog 154 = some ⟨.fn, 1, 8, [.nilFunc]⟩ := by kernel_rfl
theorem ti155 : ti Try.prog 155 = some ⟨.fn, 1, 8, [.nilFunc]⟩ := by kernel_rfl
theorem ti156 : ti Try.prog 156 = some ⟨.fn, 1, 8, [.nilFunc]⟩ := by kernel_rfl
theorem ti157 : ti Try.prog 157 = some ⟨.fn, 1, 8, [.nilFunc]⟩ := by kernel_rfl
theorem ti158 : ti Try.prog 158 = some ⟨.fn, 1, 8, [.nilFunc]⟩ := by kernel_rfl
theorem ti159 : ti Try.prog 159 = some ⟨.slc 3, 1, 24, [.slice none 0 0]⟩ := by kernel_rfl
theorem ti161 : ti Try.prog 161 = some ⟨.fn, 1, 8, [.nilFunc]⟩ := by kernel_rfl
theorem ti162 : ti Try.prog 162 = some ⟨.fn, 1, 8, [.nilFunc]⟩ := by kernel_rfl
theorem ti163 : ti Try.prog 163 = some ⟨.st [(0, 22, true), (1, 3, true), (2, 4, true), (3, 4, true)], 4, 40, [.slice none 0 0, .int .i64 0, .bool false, .bool false]⟩ := by kernel_rfl
theorem ti164 : ti Try.prog 164 = some ⟨.st [(0, 22, true), (1, 3, true), (2, 4, true), (3, 4, true)], 4, 40, [.slice none 0 0, .int .i64 0, .bool false, .bool false]⟩ := by kernel_rfl
theorem st164 : stOk Try.prog 164 = true := by kernel_rfl
theorem fi164_0 : fi Try.prog 164 0 = some ⟨0, 1, false⟩ := by kernel_rfl
theorem bi164_0 : bi Try.prog 164 0 = some ⟨0, 1, false⟩ := by kernel_rfl
theorem fi164_1 : fi Try.prog 164 1 = some ⟨1, 1, false⟩ := by kernel_rfl
theorem bi164_1 : bi Try.prog 164 1 = some ⟨1, 1, false⟩ := by kernel_rfl
theorem fi164_2 : fi Try.prog 164 2 = some ⟨2, 1, false⟩ := by kernel_rfl
theorem bi164_2 : bi Try.prog 164 2 = some ⟨2, 1, false⟩ := by kernel_rfl
theorem fi164_3 : fi Try.prog 164 3 = some ⟨3, 1, false⟩ := by kernel_rfl
theorem bi164_3 : bi Try.prog 164 3 = some ⟨3, 1, false⟩ := by kernel_rfl
theorem ti165 : ti Try.prog 165 = some ⟨.fn, 1, 8, [.nilFunc]⟩ := by kernel_rfl
theorem ti167 : ti Try.prog 167 = some ⟨.fn, 1, 8, [.nilFunc]⟩ := by kernel_rfl
theorem ti168 : ti Try.prog 168 = some ⟨.fn, 1, 8, [.nilFunc]⟩ := by kernel_rfl
theorem ti169 : ti Try.prog 169 = some ⟨.fn, 1, 8, [.nilFunc]⟩ := by kernel_rfl
theorem ti170 : ti Try.prog 170 = some ⟨.fn, 1, 8, [.nilFunc]⟩ := by kernel_rfl
theorem ti172 : ti Try.prog 172 = some ⟨.fn, 1, 8, [.nilFunc]⟩ := by kernel_rfl
theorem ti173 : ti Try.prog 173 = some ⟨.fn, 1, 8, [.nilFunc]⟩ := by kernel_rfl
theorem ti174 : ti Try.prog 174 = some ⟨.slc 43, 1, 24, [.slice none 0 0]⟩ := by kernel_rfl
theorem ti175 : ti Try.prog 175 = some ⟨.fn, 1, 8, [.nilFunc]⟩ := by kernel_rfl
theorem ti176 : ti Try.prog 176 = some ⟨.fn, 1, 8, [.nilFunc]⟩ := by kernel_rfl
theorem ti178 : ti Try.prog 178 = some ⟨.fn, 1, 8, [.nilFunc]⟩ := by kernel_rfl
theorem ti179 : ti Try.prog 179 = some ⟨.fn, 1, 8, [.nilFunc]⟩ := by kernel_rfl
theorem ti180 : ti Try.prog 180 = some ⟨.fn, 1, 8, [.nilFunc]⟩ := by kernel_rfl
theorem ti182 : ti Try.prog 182 = some ⟨.fn, 1, 8, [.nilFunc]⟩ := by kernel_rfl
theorem ti183 : ti Try.prog 183 = some ⟨.fn, 1, 8, [.nilFunc]⟩ := by kernel_rfl
theorem ti184 : ti Try.prog 184 = some ⟨.fn, 1, 8, [.nilFunc]⟩ := by kernel_rfl
theorem ti185 : ti Try.prog 185 = some ⟨.fn, 1, 8, [.nilFunc]⟩ := by kernel_rfl
theorem ti187 : ti Try.prog 187 = some ⟨.fn, 1, 8, [.nilFunc]⟩ := by kernel_rfl
theorem ti188 : ti Try.prog 188 = some ⟨.fn, 1, 8, [.nilFunc]⟩ := by kernel_rfl
theorem ti189 : ti Try.prog 189 = some ⟨.fn, 1, 8, [.nilFunc]⟩ := by kernel_rfl
theorem ti191 : ti Try.prog 191 = some ⟨.fn, 1, 8, [.nilFunc]⟩ := by kernel_rfl
theorem ti192 : ti Try.prog 192 = some ⟨.fn, 1, 8, [.nilFunc]⟩ := by kernel_rfl
theorem ti194 : ti Try.prog 194 = some ⟨.fn, 1, 8, [.nilFunc]⟩ := by kernel_rfl
theorem ti195 : ti Try.prog 195 = some ⟨.fn, 1, 8, [.nilFunc]⟩ := by kernel_rfl
theorem ti196 : ti Try.prog 196 = some ⟨.fn, 1, 8, [.nilFunc]⟩ := by kernel_rfl
theorem ti197 : ti Try.prog 197 = some ⟨.fn, 1, 8, [.nilFunc]⟩ := by kernel_rfl
theorem ti198 : ti Try.prog 198 = some ⟨.fn, 1, 8, [.nilFunc]⟩ := by kernel_rfl
theorem ti199 : ti Try.prog 199 = some ⟨.arr 3 9, 3, 48, [.string { data := #[] }, .string { data := #[] }, .string { data := #[] }]⟩ := by kernel_rfl
theorem st199 : stOk Try.prog 199 = true := by kernel_rfl
theorem bi199_0 : bi Try.prog 199 0 = some ⟨0, 1, false⟩ := by kernel_rfl
theorem bi199_1 : bi Try.prog 199 1 = some ⟨1, 1, false⟩ := by kernel_rfl
theorem bi199_2 : bi Try.prog 199 2 = some ⟨2, 1, false⟩ := by kernel_rfl
theorem ti201 : ti Try.prog 201 = some ⟨.fn, 1, 8, [.nilFunc]⟩ := by kernel_rfl
theorem ti202 : ti Try.prog 202 = some ⟨.st [(0, 3, true), (1, 45, true), (2, 22, true)], 3, 40, [.int .i64 0, .int .u64 0, .slice none 0 0]⟩ := by kernel_rfl
theorem ti203 : ti Try.prog 203 = some ⟨.st [(0, 3, true), (1, 45, true), (2, 22, true)], 3, 40, [.int .i64 0, .int .u64 0, .slice none 0 0]⟩ := by kernel_rfl
theorem st203 : stOk Try.prog 203 = true := by kernel_rfl
theorem fi203_0 : fi Try.prog 203 0 = some ⟨0, 1, false⟩ := by kernel_rfl
theorem bi203_0 : bi Try.prog 203 0 = some ⟨0, 1, false⟩ := by kernel_rfl
theorem fi203_1 : fi Try.prog 203 1 = some ⟨1, 1, false⟩ := by kernel_rfl
theorem bi203_1 : bi Try.prog 203 1 = some ⟨1, 1, false⟩ := by kernel_rfl
theorem fi203_2 : fi Try.prog 203 2 = some ⟨2, 1, false⟩ := by kernel_rfl
theorem bi203_2 : bi Try.prog 203 2 = some ⟨2, 1, false⟩ := by kernel_rfl
theorem ti205 : ti Try.prog 205 = some ⟨.fn, 1, 8, [.nilFunc]⟩ := by kernel_rfl
theorem ti211 : ti Try.prog 211 = some ⟨.int .u32, 1, 4, [.int .u32 0]⟩ := by kernel_rfl
theorem ti214 : ti Try.prog 214 = some ⟨.fn, 1, 8, [.nilFunc]⟩ := by kernel_rfl
theorem ti215 : ti Try.prog 215 = some ⟨.ptr 5, 1, 8, [.pointer none]⟩ := by kernel_rfl
attribute [go_sem] ti1 ti2 ti3 ti4 ti5 ti9 ti12 ti13 ti20 ti21 ti22 ti23 ti24 st24 fi24_0 bi24_0 fi24_1 bi24_1 fi24_2 bi24_2 fi24_3 bi24_3 fi24_4 bi24_4 fi24_5 bi24_5 ti25 ti26 st26 fi26_0 bi26_0 fi26_1 bi26_1 fi26_2 bi26_2 fi26_3 bi26_3 fi26_4 bi26_4 fi26_5 bi26_5 ti27 ti28 ti29 ti30 ti31 ti33 ti35 ti36 ti37 st37 fi37_0 bi37_0 fi37_1 bi37_1 fi37_2 bi37_2 fi37_3 bi37_3 fi37_4 bi37_4 ti39 ti40 ti41 ti42 ti43 st43 eq43 fi43_0 bi43_0 fi43_1 bi43_1 fi43_2 bi43_2 ti44 ti45 ti46 ti47 st47 eq47 fi47_0 bi47_0 fi47_1 bi47_1 fi47_2 bi47_2 fi47_3 bi47_3 fi47_4 bi47_4 fi47_5 bi47_5 fi47_6 bi47_6 fi47_7 bi47_7 ti48 ti49 ti50 ti51 ti52 ti53 ti54 st54 eq54 fi54_0 bi54_0 fi54_1 bi54_1 fi54_2 bi54_2 fi54_3 bi54_3 fi54_4 bi54_4 ti55 ti56 ti57 ti58 ti59 ti61 ti62 ti63 ti64 st64 fi64_0 bi64_0 fi64_1 bi64_1 fi64_2 bi64_2 fi64_3 bi64_3 fi64_4 bi64_4 fi64_5 bi64_5 ti65 ti66 ti67 ti68 ti70 ti71 ti72 ti73 ti74 st74 fi74_0 bi74_0 fi74_1 bi74_1 fi74_2 bi74_2 fi74_3 bi74_3 fi74_4 bi74_4 fi74_5 bi74_5 ti75 ti76 ti77 ti79 ti80 ti81 ti82 ti83 st83 fi83_0 bi83_0 fi83_1 bi83_1 fi83_2 bi83_2 fi83_3 bi83_3 ti84 ti85 ti86 ti88 ti89 ti90 ti91 ti92 ti93 ti94 ti95 ti96 ti97 ti98 ti99 ti100 ti101 st101 eq101 fi101_0 bi101_0 fi101_1 bi101_1 fi101_2 bi101_2 ti102 ti103 ti104 ti105 ti106 ti107 ti109 ti110 ti111 ti112 ti113 ti114 ti115 ti116 ti117 ti118 st118 fi118_0 bi118_0 fi118_1 bi118_1 ti119 ti120 ti121 ti122 ti123 st123 eq123 fi123_0 bi123_0 fi123_1 bi123_1 fi123_2 bi123_2 fi123_3 bi123_3 fi123_4 bi123_4 fi123_5 bi123_5 ti124 ti125 st125 bi125_0 bi125_1 bi125_2 bi125_3 bi125_4 bi125_5 bi125_6 bi125_7 bi125_8 bi125_9 ti126 ti127 ti128 ti130 ti131 ti132 ti133 ti134 ti135 ti136 ti137 st137 bi137_0 bi137_1 bi137_2 ti138 ti139 ti140 ti141 ti142 st142 eq142 fi142_0 bi142_0 fi142_1 bi142_1 fi142_2 bi142_2 fi142_3 bi142_3 ti143 ti144 ti145 ti146 ti147 st147 fi147_0 bi147_0 fi147_1 bi147_1 fi147_2 bi147_2 fi147_3 bi147_3 ti149 ti150 ti151 ti152 ti153 ti154 ti155 ti156 ti157 ti158 ti159 ti161 ti162 ti163 ti164 st164 fi164_0 bi164_0 fi164_1 bi164_1 fi164_2 bi164_2 fi164_3 bi164_3 ti165 ti167 ti168 ti169 ti170 ti172 ti173 ti174 ti175 ti176 ti178 ti179 ti180 ti182 ti183 ti184 ti185 ti187 ti188 ti189 ti191 ti192 ti194 ti195 ti196 ti197 ti198 ti199 st199 bi199_0 bi199_1 bi199_2 ti201 ti202 ti203 st203 fi203_0 bi203_0 fi203_1 bi203_1 fi203_2 bi203_2 ti205 ti211 ti214 ti215
theorem mixed : Try.prog.follows .mixedOrders = true := by kernel_rfl
end Go.Proofs.Ytghnigbihllnmaa.Ty
