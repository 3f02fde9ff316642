/- The types of this seat, as a table. -/
import Derived.Test.YtkpbjkhgiackpaaProg
import Derived.Test.YtkpbjkhgiackpaaEng3
namespace Go.Proofs.Ytkpbjkhgiackpaa
open Go Go.RowKit
set_option linter.unusedSimpArgs false
def tt : TT
  | 2 => some ⟨1, 8, .cv [.int 0], .int .i64⟩
  | 3 => some ⟨1, 8, .cv [.int 0], .int .i64⟩
  | 4 => some ⟨1, 1, .cv [.bool false], .bool⟩
  | 5 => some ⟨1, 1, .c8 [0], .int .u8⟩
  | 9 => some ⟨1, 16, .cv [.str []], .string⟩
  | 12 => some ⟨1, 8, .c64 [0], .int .u64⟩
  | 17 => some ⟨1, 8, .cv [.nilp], .ptr 147⟩
  | 22 => some ⟨1, 24, .cv [.nils], .slice 34⟩
  | 23 => some ⟨1, 24, .cv [.nils], .slice 34⟩
  | 25 => some ⟨1, 8, .cv [.int 0], .int .i64⟩
  | 34 => some ⟨1, 4, .c32 [0], .int .u32⟩
  | 35 => some ⟨2, 8, .c32 [0, 0], .array 2 34⟩
  | 37 => some ⟨1, 8, .c64 [0], .int .u64⟩
  | 38 => some ⟨4, 32, .c64 [0, 0, 0, 0], .array 4 37⟩
  | 39 => some ⟨4, 32, .c64 [0, 0, 0, 0], .array 4 37⟩
  | 45 => some ⟨32, 32, .c8 (z8 32), .array 32 5⟩
  | 49 => some ⟨64, 64, .c8 (z8 64), .array 64 5⟩
  | 53 => some ⟨1, 24, .cv [.nils], .slice 5⟩
  | 60 => some ⟨4, 80, .cv [.nils, .nils, .nils, .int 0], .struct [(0, 23, 1), (1, 23, 1), (2, 23, 1), (3, 3, 1)]⟩
  | 61 => some ⟨4, 80, .cv [.nils, .nils, .nils, .int 0], .struct [(0, 23, 1), (1, 23, 1), (2, 23, 1), (3, 3, 1)]⟩
  | 87 => some ⟨1, 24, .cv [.nils], .slice 37⟩
  | 90 => some ⟨1, 8, .c64 [0], .int .u64⟩
  | 125 => some ⟨8, 64, .c64 [0, 0, 0, 0, 0, 0, 0, 0], .array 8 37⟩
  | 132 => some ⟨1, 8, .cv [.nilp], .ptr 149⟩
  | 143 => some ⟨1, 8, .cv [.nilp], .ptr 5⟩
  | _ => none
theorem ti2 : TIok Try.prog 2 ⟨1, 8, .cv [.int 0], .int .i64⟩ := ⟨by kernel_rfl, (by simp [Cells.len, z8, z32, z64]), rfl, (fun h => by first | rfl | cases h), (by kernel_rfl : Try.prog.underlying 2 = _), (fun h => by cases h)⟩
theorem ti3 : TIok Try.prog 3 ⟨1, 8, .cv [.int 0], .int .i64⟩ := ⟨by kernel_rfl, (by simp [Cells.len, z8, z32, z64]), rfl, (fun h => by first | rfl | cases h), (by kernel_rfl : Try.prog.underlying 3 = _), (fun h => by cases h)⟩
theorem ti4 : TIok Try.prog 4 ⟨1, 1, .cv [.bool false], .bool⟩ := ⟨by kernel_rfl, (by simp [Cells.len, z8, z32, z64]), rfl, (fun h => by first | rfl | cases h), (by kernel_rfl : Try.prog.underlying 4 = _), (fun h => by cases h)⟩
theorem ti5 : TIok Try.prog 5 ⟨1, 1, .c8 [0], .int .u8⟩ := ⟨by kernel_rfl, (by simp [Cells.len, z8, z32, z64]), rfl, (fun h => by first | rfl | cases h), (by kernel_rfl : Try.prog.underlying 5 = _), (fun h => by cases h)⟩
theorem ti9 : TIok Try.prog 9 ⟨1, 16, .cv [.str []], .string⟩ := ⟨by kernel_rfl, (by simp [Cells.len, z8, z32, z64]), rfl, (fun h => by first | rfl | cases h), (by kernel_rfl : Try.prog.underlying 9 = _), (fun h => by cases h)⟩
theorem ti12 : TIok Try.prog 12 ⟨1, 8, .c64 [0], .int .u64⟩ := ⟨by kernel_rfl, (by simp [Cells.len, z8, z32, z64]), rfl, (fun h => by first | rfl | cases h), (by kernel_rfl : Try.prog.underlying 12 = _), (fun h => by cases h)⟩
theorem ti17 : TIok Try.prog 17 ⟨1, 8, .cv [.nilp], .ptr 147⟩ := ⟨by kernel_rfl, (by simp [Cells.len, z8, z32, z64]), rfl, (fun h => by first | rfl | cases h), (by kernel_rfl : Try.prog.underlying 17 = _), (fun h => by cases h)⟩
theorem ti22 : TIok Try.prog 22 ⟨1, 24, .cv [.nils], .slice 34⟩ := ⟨by kernel_rfl, (by simp [Cells.len, z8, z32, z64]), rfl, (fun h => by first | rfl | cases h), (by kernel_rfl : Try.prog.underlying 22 = _), (fun h => by cases h)⟩
theorem ti23 : TIok Try.prog 23 ⟨1, 24, .cv [.nils], .slice 34⟩ := ⟨by kernel_rfl, (by simp [Cells.len, z8, z32, z64]), rfl, (fun h => by first | rfl | cases h), (by kernel_rfl : Try.prog.underlying 23 = _), (fun h => by cases h)⟩
theorem ti25 : TIok Try.prog 25 ⟨1, 8, .cv [.int 0], .int .i64⟩ := ⟨by kernel_rfl, (by simp [Cells.len, z8, z32, z64]), rfl, (fun h => by first | rfl | cases h), (by kernel_rfl : Try.prog.underlying 25 = _), (fun h => by cases h)⟩
theorem ti34 : TIok Try.prog 34 ⟨1, 4, .c32 [0], .int .u32⟩ := ⟨by kernel_rfl, (by simp [Cells.len, z8, z32, z64]), rfl, (fun h => by first | rfl | cases h), (by kernel_rfl : Try.prog.underlying 34 = _), (fun h => by cases h)⟩
theorem ti35 : TIok Try.prog 35 ⟨2, 8, .c32 [0, 0], .array 2 34⟩ := ⟨by kernel_rfl, (by simp [Cells.len, z8, z32, z64]), rfl, (fun h => by first | rfl | cases h), (by kernel_rfl : Try.prog.underlying 35 = _), (fun _ => by kernel_rfl)⟩
theorem ti37 : TIok Try.prog 37 ⟨1, 8, .c64 [0], .int .u64⟩ := ⟨by kernel_rfl, (by simp [Cells.len, z8, z32, z64]), rfl, (fun h => by first | rfl | cases h), (by kernel_rfl : Try.prog.underlying 37 = _), (fun h => by cases h)⟩
theorem ti38 : TIok Try.prog 38 ⟨4, 32, .c64 [0, 0, 0, 0], .array 4 37⟩ := ⟨by kernel_rfl, (by simp [Cells.len, z8, z32, z64]), rfl, (fun h => by first | rfl | cases h), (by kernel_rfl : Try.prog.underlying 38 = _), (fun _ => by kernel_rfl)⟩
theorem ti39 : TIok Try.prog 39 ⟨4, 32, .c64 [0, 0, 0, 0], .array 4 37⟩ := ⟨by kernel_rfl, (by simp [Cells.len, z8, z32, z64]), rfl, (fun h => by first | rfl | cases h), (by kernel_rfl : Try.prog.underlying 39 = _), (fun _ => by kernel_rfl)⟩
theorem ti45 : TIok Try.prog 45 ⟨32, 32, .c8 (z8 32), .array 32 5⟩ := ⟨by kernel_rfl, (by simp [Cells.len, z8, z32, z64]), rfl, (fun h => by first | rfl | cases h), (by kernel_rfl : Try.prog.underlying 45 = _), (fun _ => by kernel_rfl)⟩
theorem ti49 : TIok Try.prog 49 ⟨64, 64, .c8 (z8 64), .array 64 5⟩ := ⟨by kernel_rfl, (by simp [Cells.len, z8, z32, z64]), rfl, (fun h => by first | rfl | cases h), (by kernel_rfl : Try.prog.underlying 49 = _), (fun _ => by kernel_rfl)⟩
theorem ti53 : TIok Try.prog 53 ⟨1, 24, .cv [.nils], .slice 5⟩ := ⟨by kernel_rfl, (by simp [Cells.len, z8, z32, z64]), rfl, (fun h => by first | rfl | cases h), (by kernel_rfl : Try.prog.underlying 53 = _), (fun h => by cases h)⟩
theorem ti60 : TIok Try.prog 60 ⟨4, 80, .cv [.nils, .nils, .nils, .int 0], .struct [(0, 23, 1), (1, 23, 1), (2, 23, 1), (3, 3, 1)]⟩ := ⟨by kernel_rfl, (by simp [Cells.len, z8, z32, z64]), rfl, (fun h => by first | rfl | cases h), ⟨Try.prog.fieldsOf 60, by kernel_rfl, by kernel_rfl, by kernel_rfl, by kernel_rfl, by kernel_rfl⟩, (fun _ => by kernel_rfl)⟩
theorem ti61 : TIok Try.prog 61 ⟨4, 80, .cv [.nils, .nils, .nils, .int 0], .struct [(0, 23, 1), (1, 23, 1), (2, 23, 1), (3, 3, 1)]⟩ := ⟨by kernel_rfl, (by simp [Cells.len, z8, z32, z64]), rfl, (fun h => by first | rfl | cases h), ⟨Try.prog.fieldsOf 61, by kernel_rfl, by kernel_rfl, by kernel_rfl, by kernel_rfl, by kernel_rfl⟩, (fun _ => by kernel_rfl)⟩
theorem ti87 : TIok Try.prog 87 ⟨1, 24, .cv [.nils], .slice 37⟩ := ⟨by kernel_rfl, (by simp [Cells.len, z8, z32, z64]), rfl, (fun h => by first | rfl | cases h), (by kernel_rfl : Try.prog.underlying 87 = _), (fun h => by cases h)⟩
theorem ti90 : TIok Try.prog 90 ⟨1, 8, .c64 [0], .int .u64⟩ := ⟨by kernel_rfl, (by simp [Cells.len, z8, z32, z64]), rfl, (fun h => by first | rfl | cases h), (by kernel_rfl : Try.prog.underlying 90 = _), (fun h => by cases h)⟩
theorem ti125 : TIok Try.prog 125 ⟨8, 64, .c64 [0, 0, 0, 0, 0, 0, 0, 0], .array 8 37⟩ := ⟨by kernel_rfl, (by simp [Cells.len, z8, z32, z64]), rfl, (fun h => by first | rfl | cases h), (by kernel_rfl : Try.prog.underlying 125 = _), (fun _ => by kernel_rfl)⟩
theorem ti132 : TIok Try.prog 132 ⟨1, 8, .cv [.nilp], .ptr 149⟩ := ⟨by kernel_rfl, (by simp [Cells.len, z8, z32, z64]), rfl, (fun h => by first | rfl | cases h), (by kernel_rfl : Try.prog.underlying 132 = _), (fun h => by cases h)⟩
theorem ti143 : TIok Try.prog 143 ⟨1, 8, .cv [.nilp], .ptr 5⟩ := ⟨by kernel_rfl, (by simp [Cells.len, z8, z32, z64]), rfl, (fun h => by first | rfl | cases h), (by kernel_rfl : Try.prog.underlying 143 = _), (fun h => by cases h)⟩
theorem ttok : TTok Try.prog tt := by
  intro t i h
  unfold tt at h
  split at h
  · injection h with h; subst h; exact ti2
  · injection h with h; subst h; exact ti3
  · injection h with h; subst h; exact ti4
  · injection h with h; subst h; exact ti5
  · injection h with h; subst h; exact ti9
  · injection h with h; subst h; exact ti12
  · injection h with h; subst h; exact ti17
  · injection h with h; subst h; exact ti22
  · injection h with h; subst h; exact ti23
  · injection h with h; subst h; exact ti25
  · injection h with h; subst h; exact ti34
  · injection h with h; subst h; exact ti35
  · injection h with h; subst h; exact ti37
  · injection h with h; subst h; exact ti38
  · injection h with h; subst h; exact ti39
  · injection h with h; subst h; exact ti45
  · injection h with h; subst h; exact ti49
  · injection h with h; subst h; exact ti53
  · injection h with h; subst h; exact ti60
  · injection h with h; subst h; exact ti61
  · injection h with h; subst h; exact ti87
  · injection h with h; subst h; exact ti90
  · injection h with h; subst h; exact ti125
  · injection h with h; subst h; exact ti132
  · injection h with h; subst h; exact ti143
  · cases h
end Go.Proofs.Ytkpbjkhgiackpaa
