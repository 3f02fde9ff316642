/- The types of this seat, as a table. -/
import Derived.Test.YtlcaobnojbkmbaaProg
import Derived.Test.YtlcaobnojbkmbaaSet
namespace Go.Proofs.Ytlcaobnojbkmbaa
open Go Go.RowKit
set_option linter.unusedSimpArgs false
def tt : TT
  | 2 => some ⟨1, 8, .cv [.int 0], .int .i64⟩
  | 3 => some ⟨1, 8, .cv [.int 0], .int .i64⟩
  | 4 => some ⟨1, 1, .cv [.bool false], .bool⟩
  | 5 => some ⟨1, 1, .c8 [0], .int .u8⟩
  | 9 => some ⟨1, 16, .cv [.str []], .string⟩
  | 12 => some ⟨1, 8, .c64 [0], .int .u64⟩
  | 17 => some ⟨1, 8, .cv [.nilp], .ptr 115⟩
  | 22 => some ⟨1, 24, .cv [.nils], .slice 5⟩
  | 24 => some ⟨1, 8, .cv [.int 0], .int .i64⟩
  | 30 => some ⟨1, 8, .cv [.nilp], .ptr 48⟩
  | 34 => some ⟨1, 8, .c64 [0], .int .u64⟩
  | 36 => some ⟨1, 24, .cv [.nils], .slice 22⟩
  | 41 => some ⟨20, 20, .c8 (z8 20), .array 20 5⟩
  | 45 => some ⟨1, 16, .cv [.raw .nilIface], .other⟩
  | 47 => some ⟨1, 16, .cv [.raw .nilIface], .struct [(0, 45, 1)]⟩
  | 48 => some ⟨1, 16, .cv [.raw .nilIface], .struct [(0, 45, 1)]⟩
  | 50 => some ⟨1, 4, .c32 [0], .int .u32⟩
  | 51 => some ⟨5, 20, .c32 [0, 0, 0, 0, 0], .array 5 50⟩
  | 54 => some ⟨1, 8, .cv [.raw .nilFunc], .other⟩
  | 55 => some ⟨1, 8, .c64 [0], .int .u64⟩
  | 56 => some ⟨8, 32, .c32 [0, 0, 0, 0, 0, 0, 0, 0], .array 8 50⟩
  | 58 => some ⟨1, 8, .cv [.raw .nilFunc], .other⟩
  | 59 => some ⟨8, 64, .c64 [0, 0, 0, 0, 0, 0, 0, 0], .array 8 34⟩
  | 61 => some ⟨1, 8, .cv [.raw .nilFunc], .other⟩
  | 62 => some ⟨1, 8, .cv [.nilp], .ptrm 69 [("affiant/hash.again", 75), ("affiant/hash.count", 76), ("affiant/hash.sum", 77), ("affiant/hash.write", 78)]⟩
  | 64 => some ⟨64, 64, .c8 (z8 64), .array 64 5⟩
  | 66 => some ⟨1, 24, .cv [.nils], .slice 50⟩
  | 67 => some ⟨1, 8, .cv [.raw .nilFunc], .other⟩
  | 68 => some ⟨11, 88, .m32 [0, 0, 0, 0, 0] [.nils, .u64 0, .int 0, .int 0, .raw .nilFunc, .raw .nilFunc], .struct [(0, 51, 5), (5, 22, 1), (6, 34, 1), (7, 3, 1), (8, 3, 1), (9, 54, 1), (10, 67, 1)]⟩
  | 69 => some ⟨11, 88, .m32 [0, 0, 0, 0, 0] [.nils, .u64 0, .int 0, .int 0, .raw .nilFunc, .raw .nilFunc], .struct [(0, 51, 5), (5, 22, 1), (6, 34, 1), (7, 3, 1), (8, 3, 1), (9, 54, 1), (10, 67, 1)]⟩
  | 70 => some ⟨1, 8, .cv [.nilp], .ptrm 74 [("affiant/hash.again", 79), ("affiant/hash.count", 80), ("affiant/hash.sum", 81), ("affiant/hash.write", 82)]⟩
  | 72 => some ⟨1, 8, .cv [.raw .nilFunc], .other⟩
  | 73 => some ⟨14, 96, .m32 [0, 0, 0, 0, 0, 0, 0, 0] [.nils, .u64 0, .int 0, .int 0, .raw .nilFunc, .raw .nilFunc], .struct [(0, 56, 8), (8, 22, 1), (9, 34, 1), (10, 3, 1), (11, 3, 1), (12, 58, 1), (13, 72, 1)]⟩
  | 74 => some ⟨14, 96, .m32 [0, 0, 0, 0, 0, 0, 0, 0] [.nils, .u64 0, .int 0, .int 0, .raw .nilFunc, .raw .nilFunc], .struct [(0, 56, 8), (8, 22, 1), (9, 34, 1), (10, 3, 1), (11, 3, 1), (12, 58, 1), (13, 72, 1)]⟩
  | 75 => some ⟨1, 8, .cv [.nilp], .ptrm 82 [("affiant/hash.again", 83), ("affiant/hash.count", 84), ("affiant/hash.sum", 85), ("affiant/hash.write", 86)]⟩
  | 77 => some ⟨128, 128, .c8 (z8 128), .array 128 5⟩
  | 79 => some ⟨1, 24, .cv [.nils], .slice 34⟩
  | 80 => some ⟨1, 8, .cv [.raw .nilFunc], .other⟩
  | 81 => some ⟨14, 128, .m64 [0, 0, 0, 0, 0, 0, 0, 0] [.nils, .u64 0, .int 0, .int 0, .raw .nilFunc, .raw .nilFunc], .struct [(0, 59, 8), (8, 22, 1), (9, 34, 1), (10, 3, 1), (11, 3, 1), (12, 61, 1), (13, 80, 1)]⟩
  | 82 => some ⟨14, 128, .m64 [0, 0, 0, 0, 0, 0, 0, 0] [.nils, .u64 0, .int 0, .int 0, .raw .nilFunc, .raw .nilFunc], .struct [(0, 59, 8), (8, 22, 1), (9, 34, 1), (10, 3, 1), (11, 3, 1), (12, 61, 1), (13, 80, 1)]⟩
  | 89 => some ⟨4, 16, .c32 [0, 0, 0, 0], .array 4 50⟩
  | 90 => some ⟨80, 320, .c32 (z32 80), .array 80 50⟩
  | 94 => some ⟨64, 256, .c32 (z32 64), .array 64 50⟩
  | 97 => some ⟨80, 640, .c64 (z64 80), .array 80 34⟩
  | 111 => some ⟨1, 8, .cv [.nilp], .ptr 5⟩
  | _ => none
theorem ti2 : TIok Try.prog 2 ⟨1, 8, .cv [.int 0], .int .i64⟩ := ⟨by kernel_rfl, (by simp [Cells.len, z8, z32, z64]), rfl, (fun h => by first | rfl | cases h), (by kernel_rfl : Try.prog.underlying 2 = _), (fun h => by cases h)⟩
theorem ti3 : TIok Try.prog 3 ⟨1, 8, .cv [.int 0], .int .i64⟩ := ⟨by kernel_rfl, (by simp [Cells.len, z8, z32, z64]), rfl, (fun h => by first | rfl | cases h), (by kernel_rfl : Try.prog.underlying 3 = _), (fun h => by cases h)⟩
theorem ti4 : TIok Try.prog 4 ⟨1, 1, .cv [.bool false], .bool⟩ := ⟨by kernel_rfl, (by simp [Cells.len, z8, z32, z64]), rfl, (fun h => by first | rfl | cases h), (by kernel_rfl : Try.prog.underlying 4 = _), (fun h => by cases h)⟩
theorem ti5 : TIok Try.prog 5 ⟨1, 1, .c8 [0], .int .u8⟩ := ⟨by kernel_rfl, (by simp [Cells.len, z8, z32, z64]), rfl, (fun h => by first | rfl | cases h), (by kernel_rfl : Try.prog.underlying 5 = _), (fun h => by cases h)⟩
theorem ti9 : TIok Try.prog 9 ⟨1, 16, .cv [.str []], .string⟩ := ⟨by kernel_rfl, (by simp [Cells.len, z8, z32, z64]), rfl, (fun h => by first | rfl | cases h), (by kernel_rfl : Try.prog.underlying 9 = _), (fun h => by cases h)⟩
theorem ti12 : TIok Try.prog 12 ⟨1, 8, .c64 [0], .int .u64⟩ := ⟨by kernel_rfl, (by simp [Cells.len, z8, z32, z64]), rfl, (fun h => by first | rfl | cases h), (by kernel_rfl : Try.prog.underlying 12 = _), (fun h => by cases h)⟩
theorem ti17 : TIok Try.prog 17 ⟨1, 8, .cv [.nilp], .ptr 115⟩ := ⟨by kernel_rfl, (by simp [Cells.len, z8, z32, z64]), rfl, (fun h => by first | rfl | cases h), (by kernel_rfl : Try.prog.underlying 17 = _), (fun h => by cases h)⟩
theorem ti22 : TIok Try.prog 22 ⟨1, 24, .cv [.nils], .slice 5⟩ := ⟨by kernel_rfl, (by simp [Cells.len, z8, z32, z64]), rfl, (fun h => by first | rfl | cases h), (by kernel_rfl : Try.prog.underlying 22 = _), (fun h => by cases h)⟩
theorem ti24 : TIok Try.prog 24 ⟨1, 8, .cv [.int 0], .int .i64⟩ := ⟨by kernel_rfl, (by simp [Cells.len, z8, z32, z64]), rfl, (fun h => by first | rfl | cases h), (by kernel_rfl : Try.prog.underlying 24 = _), (fun h => by cases h)⟩
theorem ti30 : TIok Try.prog 30 ⟨1, 8, .cv [.nilp], .ptr 48⟩ := ⟨by kernel_rfl, (by simp [Cells.len, z8, z32, z64]), rfl, (fun h => by first | rfl | cases h), (by kernel_rfl : Try.prog.underlying 30 = _), (fun h => by cases h)⟩
theorem ti34 : TIok Try.prog 34 ⟨1, 8, .c64 [0], .int .u64⟩ := ⟨by kernel_rfl, (by simp [Cells.len, z8, z32, z64]), rfl, (fun h => by first | rfl | cases h), (by kernel_rfl : Try.prog.underlying 34 = _), (fun h => by cases h)⟩
theorem ti36 : TIok Try.prog 36 ⟨1, 24, .cv [.nils], .slice 22⟩ := ⟨by kernel_rfl, (by simp [Cells.len, z8, z32, z64]), rfl, (fun h => by first | rfl | cases h), (by kernel_rfl : Try.prog.underlying 36 = _), (fun h => by cases h)⟩
theorem ti41 : TIok Try.prog 41 ⟨20, 20, .c8 (z8 20), .array 20 5⟩ := ⟨by kernel_rfl, (by simp [Cells.len, z8, z32, z64]), rfl, (fun h => by first | rfl | cases h), (by kernel_rfl : Try.prog.underlying 41 = _), (fun _ => by kernel_rfl)⟩
theorem ti45 : TIok Try.prog 45 ⟨1, 16, .cv [.raw .nilIface], .other⟩ := ⟨by kernel_rfl, (by simp [Cells.len, z8, z32, z64]), rfl, (fun h => by first | rfl | cases h), other_ok (by kernel_rfl), (fun h => by cases h)⟩
theorem ti47 : TIok Try.prog 47 ⟨1, 16, .cv [.raw .nilIface], .struct [(0, 45, 1)]⟩ := ⟨by kernel_rfl, (by simp [Cells.len, z8, z32, z64]), rfl, (fun h => by first | rfl | cases h), ⟨Try.prog.fieldsOf 47, by kernel_rfl, by kernel_rfl, by kernel_rfl, by kernel_rfl, by kernel_rfl⟩, (fun h => by cases h)⟩
theorem ti48 : TIok Try.prog 48 ⟨1, 16, .cv [.raw .nilIface], .struct [(0, 45, 1)]⟩ := ⟨by kernel_rfl, (by simp [Cells.len, z8, z32, z64]), rfl, (fun h => by first | rfl | cases h), ⟨Try.prog.fieldsOf 48, by kernel_rfl, by kernel_rfl, by kernel_rfl, by kernel_rfl, by kernel_rfl⟩, (fun h => by cases h)⟩
theorem ti50 : TIok Try.prog 50 ⟨1, 4, .c32 [0], .int .u32⟩ := ⟨by kernel_rfl, (by simp [Cells.len, z8, z32, z64]), rfl, (fun h => by first | rfl | cases h), (by kernel_rfl : Try.prog.underlying 50 = _), (fun h => by cases h)⟩
theorem ti51 : TIok Try.prog 51 ⟨5, 20, .c32 [0, 0, 0, 0, 0], .array 5 50⟩ := ⟨by kernel_rfl, (by simp [Cells.len, z8, z32, z64]), rfl, (fun h => by first | rfl | cases h), (by kernel_rfl : Try.prog.underlying 51 = _), (fun _ => by kernel_rfl)⟩
theorem ti54 : TIok Try.prog 54 ⟨1, 8, .cv [.raw .nilFunc], .other⟩ := ⟨by kernel_rfl, (by simp [Cells.len, z8, z32, z64]), rfl, (fun h => by first | rfl | cases h), other_ok (by kernel_rfl), (fun h => by cases h)⟩
theorem ti55 : TIok Try.prog 55 ⟨1, 8, .c64 [0], .int .u64⟩ := ⟨by kernel_rfl, (by simp [Cells.len, z8, z32, z64]), rfl, (fun h => by first | rfl | cases h), (by kernel_rfl : Try.prog.underlying 55 = _), (fun h => by cases h)⟩
theorem ti56 : TIok Try.prog 56 ⟨8, 32, .c32 [0, 0, 0, 0, 0, 0, 0, 0], .array 8 50⟩ := ⟨by kernel_rfl, (by simp [Cells.len, z8, z32, z64]), rfl, (fun h => by first | rfl | cases h), (by kernel_rfl : Try.prog.underlying 56 = _), (fun _ => by kernel_rfl)⟩
theorem ti58 : TIok Try.prog 58 ⟨1, 8, .cv [.raw .nilFunc], .other⟩ := ⟨by kernel_rfl, (by simp [Cells.len, z8, z32, z64]), rfl, (fun h => by first | rfl | cases h), other_ok (by kernel_rfl), (fun h => by cases h)⟩
theorem ti59 : TIok Try.prog 59 ⟨8, 64, .c64 [0, 0, 0, 0, 0, 0, 0, 0], .array 8 34⟩ := ⟨by kernel_rfl, (by simp [Cells.len, z8, z32, z64]), rfl, (fun h => by first | rfl | cases h), (by kernel_rfl : Try.prog.underlying 59 = _), (fun _ => by kernel_rfl)⟩
theorem ti61 : TIok Try.prog 61 ⟨1, 8, .cv [.raw .nilFunc], .other⟩ := ⟨by kernel_rfl, (by simp [Cells.len, z8, z32, z64]), rfl, (fun h => by first | rfl | cases h), other_ok (by kernel_rfl), (fun h => by cases h)⟩
theorem ti62 : TIok Try.prog 62 ⟨1, 8, .cv [.nilp], .ptrm 69 [("affiant/hash.again", 75), ("affiant/hash.count", 76), ("affiant/hash.sum", 77), ("affiant/hash.write", 78)]⟩ := ⟨by kernel_rfl, (by simp [Cells.len, z8, z32, z64]), rfl, (fun h => by first | rfl | cases h), ⟨(by kernel_rfl : Try.prog.underlying 62 = _), by
  intro p hp
  simp only [List.mem_cons, List.not_mem_nil, or_false] at hp
  rcases hp with rfl | rfl | rfl | rfl <;> kernel_rfl⟩, (fun h => by cases h)⟩
theorem ti64 : TIok Try.prog 64 ⟨64, 64, .c8 (z8 64), .array 64 5⟩ := ⟨by kernel_rfl, (by simp [Cells.len, z8, z32, z64]), rfl, (fun h => by first | rfl | cases h), (by kernel_rfl : Try.prog.underlying 64 = _), (fun _ => by kernel_rfl)⟩
theorem ti66 : TIok Try.prog 66 ⟨1, 24, .cv [.nils], .slice 50⟩ := ⟨by kernel_rfl, (by simp [Cells.len, z8, z32, z64]), rfl, (fun h => by first | rfl | cases h), (by kernel_rfl : Try.prog.underlying 66 = _), (fun h => by cases h)⟩
theorem ti67 : TIok Try.prog 67 ⟨1, 8, .cv [.raw .nilFunc], .other⟩ := ⟨by kernel_rfl, (by simp [Cells.len, z8, z32, z64]), rfl, (fun h => by first | rfl | cases h), other_ok (by kernel_rfl), (fun h => by cases h)⟩
theorem ti68 : TIok Try.prog 68 ⟨11, 88, .m32 [0, 0, 0, 0, 0] [.nils, .u64 0, .int 0, .int 0, .raw .nilFunc, .raw .nilFunc], .struct [(0, 51, 5), (5, 22, 1), (6, 34, 1), (7, 3, 1), (8, 3, 1), (9, 54, 1), (10, 67, 1)]⟩ := ⟨by kernel_rfl, (by simp [Cells.len, z8, z32, z64]), rfl, (fun h => by first | rfl | cases h), ⟨Try.prog.fieldsOf 68, by kernel_rfl, by kernel_rfl, by kernel_rfl, by kernel_rfl, by kernel_rfl⟩, (fun _ => by kernel_rfl)⟩
theorem ti69 : TIok Try.prog 69 ⟨11, 88, .m32 [0, 0, 0, 0, 0] [.nils, .u64 0, .int 0, .int 0, .raw .nilFunc, .raw .nilFunc], .struct [(0, 51, 5), (5, 22, 1), (6, 34, 1), (7, 3, 1), (8, 3, 1), (9, 54, 1), (10, 67, 1)]⟩ := ⟨by kernel_rfl, (by simp [Cells.len, z8, z32, z64]), rfl, (fun h => by first | rfl | cases h), ⟨Try.prog.fieldsOf 69, by kernel_rfl, by kernel_rfl, by kernel_rfl, by kernel_rfl, by kernel_rfl⟩, (fun _ => by kernel_rfl)⟩
theorem ti70 : TIok Try.prog 70 ⟨1, 8, .cv [.nilp], .ptrm 74 [("affiant/hash.again", 79), ("affiant/hash.count", 80), ("affiant/hash.sum", 81), ("affiant/hash.write", 82)]⟩ := ⟨by kernel_rfl, (by simp [Cells.len, z8, z32, z64]), rfl, (fun h => by first | rfl | cases h), ⟨(by kernel_rfl : Try.prog.underlying 70 = _), by
  intro p hp
  simp only [List.mem_cons, List.not_mem_nil, or_false] at hp
  rcases hp with rfl | rfl | rfl | rfl <;> kernel_rfl⟩, (fun h => by cases h)⟩
theorem ti72 : TIok Try.prog 72 ⟨1, 8, .cv [.raw .nilFunc], .other⟩ := ⟨by kernel_rfl, (by simp [Cells.len, z8, z32, z64]), rfl, (fun h => by first | rfl | cases h), other_ok (by kernel_rfl), (fun h => by cases h)⟩
theorem ti73 : TIok Try.prog 73 ⟨14, 96, .m32 [0, 0, 0, 0, 0, 0, 0, 0] [.nils, .u64 0, .int 0, .int 0, .raw .nilFunc, .raw .nilFunc], .struct [(0, 56, 8), (8, 22, 1), (9, 34, 1), (10, 3, 1), (11, 3, 1), (12, 58, 1), (13, 72, 1)]⟩ := ⟨by kernel_rfl, (by simp [Cells.len, z8, z32, z64]), rfl, (fun h => by first | rfl | cases h), ⟨Try.prog.fieldsOf 73, by kernel_rfl, by kernel_rfl, by kernel_rfl, by kernel_rfl, by kernel_rfl⟩, (fun _ => by kernel_rfl)⟩
theorem ti74 : TIok Try.prog 74 ⟨14, 96, .m32 [0, 0, 0, 0, 0, 0, 0, 0] [.nils, .u64 0, .int 0, .int 0, .raw .nilFunc, .raw .nilFunc], .struct [(0, 56, 8), (8, 22, 1), (9, 34, 1), (10, 3, 1), (11, 3, 1), (12, 58, 1), (13, 72, 1)]⟩ := ⟨by kernel_rfl, (by simp [Cells.len, z8, z32, z64]), rfl, (fun h => by first | rfl | cases h), ⟨Try.prog.fieldsOf 74, by kernel_rfl, by kernel_rfl, by kernel_rfl, by kernel_rfl, by kernel_rfl⟩, (fun _ => by kernel_rfl)⟩
theorem ti75 : TIok Try.prog 75 ⟨1, 8, .cv [.nilp], .ptrm 82 [("affiant/hash.again", 83), ("affiant/hash.count", 84), ("affiant/hash.sum", 85), ("affiant/hash.write", 86)]⟩ := ⟨by kernel_rfl, (by simp [Cells.len, z8, z32, z64]), rfl, (fun h => by first | rfl | cases h), ⟨(by kernel_rfl : Try.prog.underlying 75 = _), by
  intro p hp
  simp only [List.mem_cons, List.not_mem_nil, or_false] at hp
  rcases hp with rfl | rfl | rfl | rfl <;> kernel_rfl⟩, (fun h => by cases h)⟩
theorem ti77 : TIok Try.prog 77 ⟨128, 128, .c8 (z8 128), .array 128 5⟩ := ⟨by kernel_rfl, (by simp [Cells.len, z8, z32, z64]), rfl, (fun h => by first | rfl | cases h), (by kernel_rfl : Try.prog.underlying 77 = _), (fun _ => by kernel_rfl)⟩
theorem ti79 : TIok Try.prog 79 ⟨1, 24, .cv [.nils], .slice 34⟩ := ⟨by kernel_rfl, (by simp [Cells.len, z8, z32, z64]), rfl, (fun h => by first | rfl | cases h), (by kernel_rfl : Try.prog.underlying 79 = _), (fun h => by cases h)⟩
theorem ti80 : TIok Try.prog 80 ⟨1, 8, .cv [.raw .nilFunc], .other⟩ := ⟨by kernel_rfl, (by simp [Cells.len, z8, z32, z64]), rfl, (fun h => by first | rfl | cases h), other_ok (by kernel_rfl), (fun h => by cases h)⟩
theorem ti81 : TIok Try.prog 81 ⟨14, 128, .m64 [0, 0, 0, 0, 0, 0, 0, 0] [.nils, .u64 0, .int 0, .int 0, .raw .nilFunc, .raw .nilFunc], .struct [(0, 59, 8), (8, 22, 1), (9, 34, 1), (10, 3, 1), (11, 3, 1), (12, 61, 1), (13, 80, 1)]⟩ := ⟨by kernel_rfl, (by simp [Cells.len, z8, z32, z64]), rfl, (fun h => by first | rfl | cases h), ⟨Try.prog.fieldsOf 81, by kernel_rfl, by kernel_rfl, by kernel_rfl, by kernel_rfl, by kernel_rfl⟩, (fun _ => by kernel_rfl)⟩
theorem ti82 : TIok Try.prog 82 ⟨14, 128, .m64 [0, 0, 0, 0, 0, 0, 0, 0] [.nils, .u64 0, .int 0, .int 0, .raw .nilFunc, .raw .nilFunc], .struct [(0, 59, 8), (8, 22, 1), (9, 34, 1), (10, 3, 1), (11, 3, 1), (12, 61, 1), (13, 80, 1)]⟩ := ⟨by kernel_rfl, (by simp [Cells.len, z8, z32, z64]), rfl, (fun h => by first | rfl | cases h), ⟨Try.prog.fieldsOf 82, by kernel_rfl, by kernel_rfl, by kernel_rfl, by kernel_rfl, by kernel_rfl⟩, (fun _ => by kernel_rfl)⟩
theorem ti89 : TIok Try.prog 89 ⟨4, 16, .c32 [0, 0, 0, 0], .array 4 50⟩ := ⟨by kernel_rfl, (by simp [Cells.len, z8, z32, z64]), rfl, (fun h => by first | rfl | cases h), (by kernel_rfl : Try.prog.underlying 89 = _), (fun _ => by kernel_rfl)⟩
theorem ti90 : TIok Try.prog 90 ⟨80, 320, .c32 (z32 80), .array 80 50⟩ := ⟨by kernel_rfl, (by simp [Cells.len, z8, z32, z64]), rfl, (fun h => by first | rfl | cases h), (by kernel_rfl : Try.prog.underlying 90 = _), (fun _ => by kernel_rfl)⟩
theorem ti94 : TIok Try.prog 94 ⟨64, 256, .c32 (z32 64), .array 64 50⟩ := ⟨by kernel_rfl, (by simp [Cells.len, z8, z32, z64]), rfl, (fun h => by first | rfl | cases h), (by kernel_rfl : Try.prog.underlying 94 = _), (fun _ => by kernel_rfl)⟩
theorem ti97 : TIok Try.prog 97 ⟨80, 640, .c64 (z64 80), .array 80 34⟩ := ⟨by kernel_rfl, (by simp [Cells.len, z8, z32, z64]), rfl, (fun h => by first | rfl | cases h), (by kernel_rfl : Try.prog.underlying 97 = _), (fun _ => by kernel_rfl)⟩
theorem ti111 : TIok Try.prog 111 ⟨1, 8, .cv [.nilp], .ptr 5⟩ := ⟨by kernel_rfl, (by simp [Cells.len, z8, z32, z64]), rfl, (fun h => by first | rfl | cases h), (by kernel_rfl : Try.prog.underlying 111 = _), (fun h => by cases h)⟩
theorem ttok : TTok Try.prog tt := by
  intro t i h
  unfold tt at h
  split at h
  · injection h with h; subst h; exact ti2
  · injection h with h; subst h; exact ti3
  · injection h with h; subst h; exact ti4
  · injection h with h; subst h; exact ti5
  · injection h with h; subst h; exact ti9
  · injection h with h; subst h; exact ti12
  · injection h with h; subst h; exact ti17
  · injection h with h; subst h; exact ti22
  · injection h with h; subst h; exact ti24
  · injection h with h; subst h; exact ti30
  · injection h with h; subst h; exact ti34
  · injection h with h; subst h; exact ti36
  · injection h with h; subst h; exact ti41
  · injection h with h; subst h; exact ti45
  · injection h with h; subst h; exact ti47
  · injection h with h; subst h; exact ti48
  · injection h with h; subst h; exact ti50
  · injection h with h; subst h; exact ti51
  · injection h with h; subst h; exact ti54
  · injection h with h; subst h; exact ti55
  · injection h with h; subst h; exact ti56
  · injection h with h; subst h; exact ti58
  · injection h with h; subst h; exact ti59
  · injection h with h; subst h; exact ti61
  · injection h with h; subst h; exact ti62
  · injection h with h; subst h; exact ti64
  · injection h with h; subst h; exact ti66
  · injection h with h; subst h; exact ti67
  · injection h with h; subst h; exact ti68
  · injection h with h; subst h; exact ti69
  · injection h with h; subst h; exact ti70
  · injection h with h; subst h; exact ti72
  · injection h with h; subst h; exact ti73
  · injection h with h; subst h; exact ti74
  · injection h with h; subst h; exact ti75
  · injection h with h; subst h; exact ti77
  · injection h with h; subst h; exact ti79
  · injection h with h; subst h; exact ti80
  · injection h with h; subst h; exact ti81
  · injection h with h; subst h; exact ti82
  · injection h with h; subst h; exact ti89
  · injection h with h; subst h; exact ti90
  · injection h with h; subst h; exact ti94
  · injection h with h; subst h; exact ti97
  · injection h with h; subst h; exact ti111
  · cases h
end Go.Proofs.Ytlcaobnojbkmbaa
