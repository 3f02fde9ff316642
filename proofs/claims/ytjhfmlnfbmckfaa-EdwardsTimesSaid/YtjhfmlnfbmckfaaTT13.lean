/- The types of this seat, as a table. -/
import Derived.Test.YtjhfmlnfbmckfaaProg
import Derived.Test.YtjhfmlnfbmckfaaFn
namespace Go.Proofs.Ytjhfmlnfbmckfaa
open Go Go.RowKit
set_option linter.unusedSimpArgs false
def tt : TT
  | 2 => some ⟨1, 8, .cv [.int 0], .int .i64⟩
  | 3 => some ⟨1, 8, .cv [.int 0], .int .i64⟩
  | 4 => some ⟨1, 1, .cv [.bool false], .bool⟩
  | 5 => some ⟨1, 1, .c8 [0], .int .u8⟩
  | 9 => some ⟨1, 16, .cv [.str []], .string⟩
  | 12 => some ⟨1, 8, .c64 [0], .int .u64⟩
  | 17 => some ⟨1, 8, .cv [.nilp], .ptr 95⟩
  | 22 => some ⟨1, 8, .c64 [0], .int .u64⟩
  | 23 => some ⟨4, 32, .c64 [0, 0, 0, 0], .array 4 22⟩
  | 24 => some ⟨4, 32, .c64 [0, 0, 0, 0], .array 4 22⟩
  | 28 => some ⟨8, 64, .c64 [0, 0, 0, 0, 0, 0, 0, 0], .struct [(0, 24, 4), (4, 24, 4)]⟩
  | 29 => some ⟨8, 64, .c64 [0, 0, 0, 0, 0, 0, 0, 0], .struct [(0, 24, 4), (4, 24, 4)]⟩
  | 33 => some ⟨32, 32, .c8 (z8 32), .array 32 5⟩
  | 44 => some ⟨1, 8, .c64 [0], .int .u64⟩
  | 55 => some ⟨16, 128, .c64 [0, 0, 0, 0, 0, 0, 0, 0, 0, 0, 0, 0, 0, 0, 0, 0], .struct [(0, 24, 4), (4, 24, 4), (8, 24, 4), (12, 24, 4)]⟩
  | 56 => some ⟨16, 128, .c64 [0, 0, 0, 0, 0, 0, 0, 0, 0, 0, 0, 0, 0, 0, 0, 0], .struct [(0, 24, 4), (4, 24, 4), (8, 24, 4), (12, 24, 4)]⟩
  | 59 => some ⟨12, 96, .c64 [0, 0, 0, 0, 0, 0, 0, 0, 0, 0, 0, 0], .struct [(0, 24, 4), (4, 24, 4), (8, 24, 4)]⟩
  | 60 => some ⟨12, 96, .c64 [0, 0, 0, 0, 0, 0, 0, 0, 0, 0, 0, 0], .struct [(0, 24, 4), (4, 24, 4), (8, 24, 4)]⟩
  | 69 => some ⟨8, 64, .c64 [0, 0, 0, 0, 0, 0, 0, 0], .array 8 22⟩
  | 71 => some ⟨1, 24, .cv [.nils], .slice 22⟩
  | 73 => some ⟨16, 128, .c64 [0, 0, 0, 0, 0, 0, 0, 0, 0, 0, 0, 0, 0, 0, 0, 0], .array 16 22⟩
  | 78 => some ⟨1, 24, .cv [.nils], .slice 5⟩
  | 87 => some ⟨1, 4, .c32 [0], .int .u32⟩
  | 91 => some ⟨1, 8, .cv [.nilp], .ptr 5⟩
  | _ => none
theorem ti2 : TIok Try.prog 2 ⟨1, 8, .cv [.int 0], .int .i64⟩ := ⟨by kernel_rfl, (by simp [Cells.len, z8, z32, z64]), rfl, (fun h => by first | rfl | cases h), (by kernel_rfl : Try.prog.underlying 2 = _), (fun h => by cases h)⟩
theorem ti3 : TIok Try.prog 3 ⟨1, 8, .cv [.int 0], .int .i64⟩ := ⟨by kernel_rfl, (by simp [Cells.len, z8, z32, z64]), rfl, (fun h => by first | rfl | cases h), (by kernel_rfl : Try.prog.underlying 3 = _), (fun h => by cases h)⟩
theorem ti4 : TIok Try.prog 4 ⟨1, 1, .cv [.bool false], .bool⟩ := ⟨by kernel_rfl, (by simp [Cells.len, z8, z32, z64]), rfl, (fun h => by first | rfl | cases h), (by kernel_rfl : Try.prog.underlying 4 = _), (fun h => by cases h)⟩
theorem ti5 : TIok Try.prog 5 ⟨1, 1, .c8 [0], .int .u8⟩ := ⟨by kernel_rfl, (by simp [Cells.len, z8, z32, z64]), rfl, (fun h => by first | rfl | cases h), (by kernel_rfl : Try.prog.underlying 5 = _), (fun h => by cases h)⟩
theorem ti9 : TIok Try.prog 9 ⟨1, 16, .cv [.str []], .string⟩ := ⟨by kernel_rfl, (by simp [Cells.len, z8, z32, z64]), rfl, (fun h => by first | rfl | cases h), (by kernel_rfl : Try.prog.underlying 9 = _), (fun h => by cases h)⟩
theorem ti12 : TIok Try.prog 12 ⟨1, 8, .c64 [0], .int .u64⟩ := ⟨by kernel_rfl, (by simp [Cells.len, z8, z32, z64]), rfl, (fun h => by first | rfl | cases h), (by kernel_rfl : Try.prog.underlying 12 = _), (fun h => by cases h)⟩
theorem ti17 : TIok Try.prog 17 ⟨1, 8, .cv [.nilp], .ptr 95⟩ := ⟨by kernel_rfl, (by simp [Cells.len, z8, z32, z64]), rfl, (fun h => by first | rfl | cases h), (by kernel_rfl : Try.prog.underlying 17 = _), (fun h => by cases h)⟩
theorem ti22 : TIok Try.prog 22 ⟨1, 8, .c64 [0], .int .u64⟩ := ⟨by kernel_rfl, (by simp [Cells.len, z8, z32, z64]), rfl, (fun h => by first | rfl | cases h), (by kernel_rfl : Try.prog.underlying 22 = _), (fun h => by cases h)⟩
theorem ti23 : TIok Try.prog 23 ⟨4, 32, .c64 [0, 0, 0, 0], .array 4 22⟩ := ⟨by kernel_rfl, (by simp [Cells.len, z8, z32, z64]), rfl, (fun h => by first | rfl | cases h), (by kernel_rfl : Try.prog.underlying 23 = _), (fun _ => by kernel_rfl)⟩
theorem ti24 : TIok Try.prog 24 ⟨4, 32, .c64 [0, 0, 0, 0], .array 4 22⟩ := ⟨by kernel_rfl, (by simp [Cells.len, z8, z32, z64]), rfl, (fun h => by first | rfl | cases h), (by kernel_rfl : Try.prog.underlying 24 = _), (fun _ => by kernel_rfl)⟩
theorem ti28 : TIok Try.prog 28 ⟨8, 64, .c64 [0, 0, 0, 0, 0, 0, 0, 0], .struct [(0, 24, 4), (4, 24, 4)]⟩ := ⟨by kernel_rfl, (by simp [Cells.len, z8, z32, z64]), rfl, (fun h => by first | rfl | cases h), ⟨Try.prog.fieldsOf 28, by kernel_rfl, by kernel_rfl, by kernel_rfl, by kernel_rfl, by kernel_rfl⟩, (fun _ => by kernel_rfl)⟩
theorem ti29 : TIok Try.prog 29 ⟨8, 64, .c64 [0, 0, 0, 0, 0, 0, 0, 0], .struct [(0, 24, 4), (4, 24, 4)]⟩ := ⟨by kernel_rfl, (by simp [Cells.len, z8, z32, z64]), rfl, (fun h => by first | rfl | cases h), ⟨Try.prog.fieldsOf 29, by kernel_rfl, by kernel_rfl, by kernel_rfl, by kernel_rfl, by kernel_rfl⟩, (fun _ => by kernel_rfl)⟩
theorem ti33 : TIok Try.prog 33 ⟨32, 32, .c8 (z8 32), .array 32 5⟩ := ⟨by kernel_rfl, (by simp [Cells.len, z8, z32, z64]), rfl, (fun h => by first | rfl | cases h), (by kernel_rfl : Try.prog.underlying 33 = _), (fun _ => by kernel_rfl)⟩
theorem ti44 : TIok Try.prog 44 ⟨1, 8, .c64 [0], .int .u64⟩ := ⟨by kernel_rfl, (by simp [Cells.len, z8, z32, z64]), rfl, (fun h => by first | rfl | cases h), (by kernel_rfl : Try.prog.underlying 44 = _), (fun h => by cases h)⟩
theorem ti55 : TIok Try.prog 55 ⟨16, 128, .c64 [0, 0, 0, 0, 0, 0, 0, 0, 0, 0, 0, 0, 0, 0, 0, 0], .struct [(0, 24, 4), (4, 24, 4), (8, 24, 4), (12, 24, 4)]⟩ := ⟨by kernel_rfl, (by simp [Cells.len, z8, z32, z64]), rfl, (fun h => by first | rfl | cases h), ⟨Try.prog.fieldsOf 55, by kernel_rfl, by kernel_rfl, by kernel_rfl, by kernel_rfl, by kernel_rfl⟩, (fun _ => by kernel_rfl)⟩
theorem ti56 : TIok Try.prog 56 ⟨16, 128, .c64 [0, 0, 0, 0, 0, 0, 0, 0, 0, 0, 0, 0, 0, 0, 0, 0], .struct [(0, 24, 4), (4, 24, 4), (8, 24, 4), (12, 24, 4)]⟩ := ⟨by kernel_rfl, (by simp [Cells.len, z8, z32, z64]), rfl, (fun h => by first | rfl | cases h), ⟨Try.prog.fieldsOf 56, by kernel_rfl, by kernel_rfl, by kernel_rfl, by kernel_rfl, by kernel_rfl⟩, (fun _ => by kernel_rfl)⟩
theorem ti59 : TIok Try.prog 59 ⟨12, 96, .c64 [0, 0, 0, 0, 0, 0, 0, 0, 0, 0, 0, 0], .struct [(0, 24, 4), (4, 24, 4), (8, 24, 4)]⟩ := ⟨by kernel_rfl, (by simp [Cells.len, z8, z32, z64]), rfl, (fun h => by first | rfl | cases h), ⟨Try.prog.fieldsOf 59, by kernel_rfl, by kernel_rfl, by kernel_rfl, by kernel_rfl, by kernel_rfl⟩, (fun _ => by kernel_rfl)⟩
theorem ti60 : TIok Try.prog 60 ⟨12, 96, .c64 [0, 0, 0, 0, 0, 0, 0, 0, 0, 0, 0, 0], .struct [(0, 24, 4), (4, 24, 4), (8, 24, 4)]⟩ := ⟨by kernel_rfl, (by simp [Cells.len, z8, z32, z64]), rfl, (fun h => by first | rfl | cases h), ⟨Try.prog.fieldsOf 60, by kernel_rfl, by kernel_rfl, by kernel_rfl, by kernel_rfl, by kernel_rfl⟩, (fun _ => by kernel_rfl)⟩
theorem ti69 : TIok Try.prog 69 ⟨8, 64, .c64 [0, 0, 0, 0, 0, 0, 0, 0], .array 8 22⟩ := ⟨by kernel_rfl, (by simp [Cells.len, z8, z32, z64]), rfl, (fun h => by first | rfl | cases h), (by kernel_rfl : Try.prog.underlying 69 = _), (fun _ => by kernel_rfl)⟩
theorem ti71 : TIok Try.prog 71 ⟨1, 24, .cv [.nils], .slice 22⟩ := ⟨by kernel_rfl, (by simp [Cells.len, z8, z32, z64]), rfl, (fun h => by first | rfl | cases h), (by kernel_rfl : Try.prog.underlying 71 = _), (fun h => by cases h)⟩
theorem ti73 : TIok Try.prog 73 ⟨16, 128, .c64 [0, 0, 0, 0, 0, 0, 0, 0, 0, 0, 0, 0, 0, 0, 0, 0], .array 16 22⟩ := ⟨by kernel_rfl, (by simp [Cells.len, z8, z32, z64]), rfl, (fun h => by first | rfl | cases h), (by kernel_rfl : Try.prog.underlying 73 = _), (fun _ => by kernel_rfl)⟩
theorem ti78 : TIok Try.prog 78 ⟨1, 24, .cv [.nils], .slice 5⟩ := ⟨by kernel_rfl, (by simp [Cells.len, z8, z32, z64]), rfl, (fun h => by first | rfl | cases h), (by kernel_rfl : Try.prog.underlying 78 = _), (fun h => by cases h)⟩
theorem ti87 : TIok Try.prog 87 ⟨1, 4, .c32 [0], .int .u32⟩ := ⟨by kernel_rfl, (by simp [Cells.len, z8, z32, z64]), rfl, (fun h => by first | rfl | cases h), (by kernel_rfl : Try.prog.underlying 87 = _), (fun h => by cases h)⟩
theorem ti91 : TIok Try.prog 91 ⟨1, 8, .cv [.nilp], .ptr 5⟩ := ⟨by kernel_rfl, (by simp [Cells.len, z8, z32, z64]), rfl, (fun h => by first | rfl | cases h), (by kernel_rfl : Try.prog.underlying 91 = _), (fun h => by cases h)⟩
theorem ttok : TTok Try.prog tt := by
  intro t i h
  unfold tt at h
  split at h
  · injection h with h; subst h; exact ti2
  · injection h with h; subst h; exact ti3
  · injection h with h; subst h; exact ti4
  · injection h with h; subst h; exact ti5
  · injection h with h; subst h; exact ti9
  · injection h with h; subst h; exact ti12
  · injection h with h; subst h; exact ti17
  · injection h with h; subst h; exact ti22
  · injection h with h; subst h; exact ti23
  · injection h with h; subst h; exact ti24
  · injection h with h; subst h; exact ti28
  · injection h with h; subst h; exact ti29
  · injection h with h; subst h; exact ti33
  · injection h with h; subst h; exact ti44
  · injection h with h; subst h; exact ti55
  · injection h with h; subst h; exact ti56
  · injection h with h; subst h; exact ti59
  · injection h with h; subst h; exact ti60
  · injection h with h; subst h; exact ti69
  · injection h with h; subst h; exact ti71
  · injection h with h; subst h; exact ti73
  · injection h with h; subst h; exact ti78
  · injection h with h; subst h; exact ti87
  · injection h with h; subst h; exact ti91
  · cases h
end Go.Proofs.Ytjhfmlnfbmckfaa
