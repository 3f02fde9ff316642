/- The types of this seat, as a table. -/
import Derived.Test.YtokokhnpdehjlaaProg
import Derived.Test.YtokokhnpdehjlaaFn
namespace Go.Proofs.Ytokokhnpdehjlaa
open Go Go.RowKit
set_option linter.unusedSimpArgs false
def tt : TT
  | 2 => some ⟨1, 8, .cv [.int 0], .int .i64⟩
  | 3 => some ⟨1, 8, .cv [.int 0], .int .i64⟩
  | 4 => some ⟨1, 1, .cv [.bool false], .bool⟩
  | 5 => some ⟨1, 1, .c8 [0], .int .u8⟩
  | 9 => some ⟨1, 16, .cv [.str []], .string⟩
  | 12 => some ⟨1, 8, .c64 [0], .int .u64⟩
  | 17 => some ⟨1, 8, .cv [.nilp], .ptr 104⟩
  | 22 => some ⟨1, 8, .c64 [0], .int .u64⟩
  | 23 => some ⟨4, 32, .c64 [0, 0, 0, 0], .array 4 22⟩
  | 24 => some ⟨4, 32, .c64 [0, 0, 0, 0], .array 4 22⟩
  | 34 => some ⟨32, 32, .c8 (z8 32), .array 32 5⟩
  | 38 => some ⟨1, 24, .cv [.nils], .slice 63⟩
  | 39 => some ⟨1, 24, .cv [.nils], .slice 63⟩
  | 40 => some ⟨1, 8, .cv [.int 0], .int .i64⟩
  | 50 => some ⟨1, 8, .c64 [0], .int .u64⟩
  | 58 => some ⟨16, 128, .c64 [0, 0, 0, 0, 0, 0, 0, 0, 0, 0, 0, 0, 0, 0, 0, 0], .array 16 22⟩
  | 60 => some ⟨8, 64, .c64 [0, 0, 0, 0, 0, 0, 0, 0], .array 8 22⟩
  | 62 => some ⟨1, 24, .cv [.nils], .slice 5⟩
  | 63 => some ⟨1, 4, .c32 [0], .int .u32⟩
  | 74 => some ⟨1, 24, .cv [.nils], .slice 22⟩
  | 100 => some ⟨1, 8, .cv [.nilp], .ptr 5⟩
  | _ => none
theorem ti2 : TIok Try.prog 2 ⟨1, 8, .cv [.int 0], .int .i64⟩ := ⟨by kernel_rfl, (by simp [Cells.len, z8, z32, z64]), rfl, (fun h => by first | rfl | cases h), (by kernel_rfl : Try.prog.underlying 2 = _), (fun h => by cases h)⟩
theorem ti3 : TIok Try.prog 3 ⟨1, 8, .cv [.int 0], .int .i64⟩ := ⟨by kernel_rfl, (by simp [Cells.len, z8, z32, z64]), rfl, (fun h => by first | rfl | cases h), (by kernel_rfl : Try.prog.underlying 3 = _), (fun h => by cases h)⟩
theorem ti4 : TIok Try.prog 4 ⟨1, 1, .cv [.bool false], .bool⟩ := ⟨by kernel_rfl, (by simp [Cells.len, z8, z32, z64]), rfl, (fun h => by first | rfl | cases h), (by kernel_rfl : Try.prog.underlying 4 = _), (fun h => by cases h)⟩
theorem ti5 : TIok Try.prog 5 ⟨1, 1, .c8 [0], .int .u8⟩ := ⟨by kernel_rfl, (by simp [Cells.len, z8, z32, z64]), rfl, (fun h => by first | rfl | cases h), (by kernel_rfl : Try.prog.underlying 5 = _), (fun h => by cases h)⟩
theorem ti9 : TIok Try.prog 9 ⟨1, 16, .cv [.str []], .string⟩ := ⟨by kernel_rfl, (by simp [Cells.len, z8, z32, z64]), rfl, (fun h => by first | rfl | cases h), (by kernel_rfl : Try.prog.underlying 9 = _), (fun h => by cases h)⟩
theorem ti12 : TIok Try.prog 12 ⟨1, 8, .c64 [0], .int .u64⟩ := ⟨by kernel_rfl, (by simp [Cells.len, z8, z32, z64]), rfl, (fun h => by first | rfl | cases h), (by kernel_rfl : Try.prog.underlying 12 = _), (fun h => by cases h)⟩
theorem ti17 : TIok Try.prog 17 ⟨1, 8, .cv [.nilp], .ptr 104⟩ := ⟨by kernel_rfl, (by simp [Cells.len, z8, z32, z64]), rfl, (fun h => by first | rfl | cases h), (by kernel_rfl : Try.prog.underlying 17 = _), (fun h => by cases h)⟩
theorem ti22 : TIok Try.prog 22 ⟨1, 8, .c64 [0], .int .u64⟩ := ⟨by kernel_rfl, (by simp [Cells.len, z8, z32, z64]), rfl, (fun h => by first | rfl | cases h), (by kernel_rfl : Try.prog.underlying 22 = _), (fun h => by cases h)⟩
theorem ti23 : TIok Try.prog 23 ⟨4, 32, .c64 [0, 0, 0, 0], .array 4 22⟩ := ⟨by kernel_rfl, (by simp [Cells.len, z8, z32, z64]), rfl, (fun h => by first | rfl | cases h), (by kernel_rfl : Try.prog.underlying 23 = _), (fun _ => by kernel_rfl)⟩
theorem ti24 : TIok Try.prog 24 ⟨4, 32, .c64 [0, 0, 0, 0], .array 4 22⟩ := ⟨by kernel_rfl, (by simp [Cells.len, z8, z32, z64]), rfl, (fun h => by first | rfl | cases h), (by kernel_rfl : Try.prog.underlying 24 = _), (fun _ => by kernel_rfl)⟩
theorem ti34 : TIok Try.prog 34 ⟨32, 32, .c8 (z8 32), .array 32 5⟩ := ⟨by kernel_rfl, (by simp [Cells.len, z8, z32, z64]), rfl, (fun h => by first | rfl | cases h), (by kernel_rfl : Try.prog.underlying 34 = _), (fun _ => by kernel_rfl)⟩
theorem ti38 : TIok Try.prog 38 ⟨1, 24, .cv [.nils], .slice 63⟩ := ⟨by kernel_rfl, (by simp [Cells.len, z8, z32, z64]), rfl, (fun h => by first | rfl | cases h), (by kernel_rfl : Try.prog.underlying 38 = _), (fun h => by cases h)⟩
theorem ti39 : TIok Try.prog 39 ⟨1, 24, .cv [.nils], .slice 63⟩ := ⟨by kernel_rfl, (by simp [Cells.len, z8, z32, z64]), rfl, (fun h => by first | rfl | cases h), (by kernel_rfl : Try.prog.underlying 39 = _), (fun h => by cases h)⟩
theorem ti40 : TIok Try.prog 40 ⟨1, 8, .cv [.int 0], .int .i64⟩ := ⟨by kernel_rfl, (by simp [Cells.len, z8, z32, z64]), rfl, (fun h => by first | rfl | cases h), (by kernel_rfl : Try.prog.underlying 40 = _), (fun h => by cases h)⟩
theorem ti50 : TIok Try.prog 50 ⟨1, 8, .c64 [0], .int .u64⟩ := ⟨by kernel_rfl, (by simp [Cells.len, z8, z32, z64]), rfl, (fun h => by first | rfl | cases h), (by kernel_rfl : Try.prog.underlying 50 = _), (fun h => by cases h)⟩
theorem ti58 : TIok Try.prog 58 ⟨16, 128, .c64 [0, 0, 0, 0, 0, 0, 0, 0, 0, 0, 0, 0, 0, 0, 0, 0], .array 16 22⟩ := ⟨by kernel_rfl, (by simp [Cells.len, z8, z32, z64]), rfl, (fun h => by first | rfl | cases h), (by kernel_rfl : Try.prog.underlying 58 = _), (fun _ => by kernel_rfl)⟩
theorem ti60 : TIok Try.prog 60 ⟨8, 64, .c64 [0, 0, 0, 0, 0, 0, 0, 0], .array 8 22⟩ := ⟨by kernel_rfl, (by simp [Cells.len, z8, z32, z64]), rfl, (fun h => by first | rfl | cases h), (by kernel_rfl : Try.prog.underlying 60 = _), (fun _ => by kernel_rfl)⟩
theorem ti62 : TIok Try.prog 62 ⟨1, 24, .cv [.nils], .slice 5⟩ := ⟨by kernel_rfl, (by simp [Cells.len, z8, z32, z64]), rfl, (fun h => by first | rfl | cases h), (by kernel_rfl : Try.prog.underlying 62 = _), (fun h => by cases h)⟩
theorem ti63 : TIok Try.prog 63 ⟨1, 4, .c32 [0], .int .u32⟩ := ⟨by kernel_rfl, (by simp [Cells.len, z8, z32, z64]), rfl, (fun h => by first | rfl | cases h), (by kernel_rfl : Try.prog.underlying 63 = _), (fun h => by cases h)⟩
theorem ti74 : TIok Try.prog 74 ⟨1, 24, .cv [.nils], .slice 22⟩ := ⟨by kernel_rfl, (by simp [Cells.len, z8, z32, z64]), rfl, (fun h => by first | rfl | cases h), (by kernel_rfl : Try.prog.underlying 74 = _), (fun h => by cases h)⟩
theorem ti100 : TIok Try.prog 100 ⟨1, 8, .cv [.nilp], .ptr 5⟩ := ⟨by kernel_rfl, (by simp [Cells.len, z8, z32, z64]), rfl, (fun h => by first | rfl | cases h), (by kernel_rfl : Try.prog.underlying 100 = _), (fun h => by cases h)⟩
theorem ttok : TTok Try.prog tt := by
  intro t i h
  unfold tt at h
  split at h
  · injection h with h; subst h; exact ti2
  · injection h with h; subst h; exact ti3
  · injection h with h; subst h; exact ti4
  · injection h with h; subst h; exact ti5
  · injection h with h; subst h; exact ti9
  · injection h with h; subst h; exact ti12
  · injection h with h; subst h; exact ti17
  · injection h with h; subst h; exact ti22
  · injection h with h; subst h; exact ti23
  · injection h with h; subst h; exact ti24
  · injection h with h; subst h; exact ti34
  · injection h with h; subst h; exact ti38
  · injection h with h; subst h; exact ti39
  · injection h with h; subst h; exact ti40
  · injection h with h; subst h; exact ti50
  · injection h with h; subst h; exact ti58
  · injection h with h; subst h; exact ti60
  · injection h with h; subst h; exact ti62
  · injection h with h; subst h; exact ti63
  · injection h with h; subst h; exact ti74
  · injection h with h; subst h; exact ti100
  · cases h
end Go.Proofs.Ytokokhnpdehjlaa
