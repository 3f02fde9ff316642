/- The types of this seat, as a table. -/
import Derived.Test.YtcbfflhggjkmpaaProg
import Derived.Test.YtcbfflhggjkmpaaFn
namespace Go.Proofs.Ytcbfflhggjkmpaa
open Go Go.RowKit
set_option linter.unusedSimpArgs false
def tt : TT
  | 2 => some ⟨1, 8, .cv [.int 0], .int .i64⟩
  | 3 => some ⟨1, 8, .cv [.int 0], .int .i64⟩
  | 4 => some ⟨1, 1, .cv [.bool false], .bool⟩
  | 5 => some ⟨1, 1, .c8 [0], .int .u8⟩
  | 9 => some ⟨1, 16, .cv [.str []], .string⟩
  | 12 => some ⟨1, 8, .c64 [0], .int .u64⟩
  | 17 => some ⟨1, 8, .cv [.nilp], .ptr 112⟩
  | 22 => some ⟨1, 24, .cv [.nils], .slice 45⟩
  | 23 => some ⟨1, 24, .cv [.nils], .slice 45⟩
  | 25 => some ⟨1, 8, .cv [.int 0], .int .i64⟩
  | 28 => some ⟨1, 24, .cv [.nils], .slice 5⟩
  | 33 => some ⟨4, 80, .cv [.nils, .nils, .nils, .int 0], .struct [(0, 23, 1), (1, 23, 1), (2, 23, 1), (3, 3, 1)]⟩
  | 34 => some ⟨4, 80, .cv [.nils, .nils, .nils, .int 0], .struct [(0, 23, 1), (1, 23, 1), (2, 23, 1), (3, 3, 1)]⟩
  | 45 => some ⟨1, 4, .c32 [0], .int .u32⟩
  | 60 => some ⟨1, 8, .c64 [0], .int .u64⟩
  | 62 => some ⟨1, 8, .c64 [0], .int .u64⟩
  | 65 => some ⟨1, 24, .cv [.nils], .slice 60⟩
  | 97 => some ⟨1, 8, .cv [.nilp], .ptr 114⟩
  | 108 => some ⟨1, 8, .cv [.nilp], .ptr 5⟩
  | _ => none
theorem ti2 : TIok Try.prog 2 ⟨1, 8, .cv [.int 0], .int .i64⟩ := ⟨by kernel_rfl, (by simp [Cells.len, z8, z32, z64]), rfl, (fun h => by first | rfl | cases h), (by kernel_rfl : Try.prog.underlying 2 = _), (fun h => by cases h)⟩
theorem ti3 : TIok Try.prog 3 ⟨1, 8, .cv [.int 0], .int .i64⟩ := ⟨by kernel_rfl, (by simp [Cells.len, z8, z32, z64]), rfl, (fun h => by first | rfl | cases h), (by kernel_rfl : Try.prog.underlying 3 = _), (fun h => by cases h)⟩
theorem ti4 : TIok Try.prog 4 ⟨1, 1, .cv [.bool false], .bool⟩ := ⟨by kernel_rfl, (by simp [Cells.len, z8, z32, z64]), rfl, (fun h => by first | rfl | cases h), (by kernel_rfl : Try.prog.underlying 4 = _), (fun h => by cases h)⟩
theorem ti5 : TIok Try.prog 5 ⟨1, 1, .c8 [0], .int .u8⟩ := ⟨by kernel_rfl, (by simp [Cells.len, z8, z32, z64]), rfl, (fun h => by first | rfl | cases h), (by kernel_rfl : Try.prog.underlying 5 = _), (fun h => by cases h)⟩
theorem ti9 : TIok Try.prog 9 ⟨1, 16, .cv [.str []], .string⟩ := ⟨by kernel_rfl, (by simp [Cells.len, z8, z32, z64]), rfl, (fun h => by first | rfl | cases h), (by kernel_rfl : Try.prog.underlying 9 = _), (fun h => by cases h)⟩
theorem ti12 : TIok Try.prog 12 ⟨1, 8, .c64 [0], .int .u64⟩ := ⟨by kernel_rfl, (by simp [Cells.len, z8, z32, z64]), rfl, (fun h => by first | rfl | cases h), (by kernel_rfl : Try.prog.underlying 12 = _), (fun h => by cases h)⟩
theorem ti17 : TIok Try.prog 17 ⟨1, 8, .cv [.nilp], .ptr 112⟩ := ⟨by kernel_rfl, (by simp [Cells.len, z8, z32, z64]), rfl, (fun h => by first | rfl | cases h), (by kernel_rfl : Try.prog.underlying 17 = _), (fun h => by cases h)⟩
theorem ti22 : TIok Try.prog 22 ⟨1, 24, .cv [.nils], .slice 45⟩ := ⟨by kernel_rfl, (by simp [Cells.len, z8, z32, z64]), rfl, (fun h => by first | rfl | cases h), (by kernel_rfl : Try.prog.underlying 22 = _), (fun h => by cases h)⟩
theorem ti23 : TIok Try.prog 23 ⟨1, 24, .cv [.nils], .slice 45⟩ := ⟨by kernel_rfl, (by simp [Cells.len, z8, z32, z64]), rfl, (fun h => by first | rfl | cases h), (by kernel_rfl : Try.prog.underlying 23 = _), (fun h => by cases h)⟩
theorem ti25 : TIok Try.prog 25 ⟨1, 8, .cv [.int 0], .int .i64⟩ := ⟨by kernel_rfl, (by simp [Cells.len, z8, z32, z64]), rfl, (fun h => by first | rfl | cases h), (by kernel_rfl : Try.prog.underlying 25 = _), (fun h => by cases h)⟩
theorem ti28 : TIok Try.prog 28 ⟨1, 24, .cv [.nils], .slice 5⟩ := ⟨by kernel_rfl, (by simp [Cells.len, z8, z32, z64]), rfl, (fun h => by first | rfl | cases h), (by kernel_rfl : Try.prog.underlying 28 = _), (fun h => by cases h)⟩
theorem ti33 : TIok Try.prog 33 ⟨4, 80, .cv [.nils, .nils, .nils, .int 0], .struct [(0, 23, 1), (1, 23, 1), (2, 23, 1), (3, 3, 1)]⟩ := ⟨by kernel_rfl, (by simp [Cells.len, z8, z32, z64]), rfl, (fun h => by first | rfl | cases h), ⟨Try.prog.fieldsOf 33, by kernel_rfl, by kernel_rfl, by kernel_rfl, by kernel_rfl, by kernel_rfl⟩, (fun _ => by kernel_rfl)⟩
theorem ti34 : TIok Try.prog 34 ⟨4, 80, .cv [.nils, .nils, .nils, .int 0], .struct [(0, 23, 1), (1, 23, 1), (2, 23, 1), (3, 3, 1)]⟩ := ⟨by kernel_rfl, (by simp [Cells.len, z8, z32, z64]), rfl, (fun h => by first | rfl | cases h), ⟨Try.prog.fieldsOf 34, by kernel_rfl, by kernel_rfl, by kernel_rfl, by kernel_rfl, by kernel_rfl⟩, (fun _ => by kernel_rfl)⟩
theorem ti45 : TIok Try.prog 45 ⟨1, 4, .c32 [0], .int .u32⟩ := ⟨by kernel_rfl, (by simp [Cells.len, z8, z32, z64]), rfl, (fun h => by first | rfl | cases h), (by kernel_rfl : Try.prog.underlying 45 = _), (fun h => by cases h)⟩
theorem ti60 : TIok Try.prog 60 ⟨1, 8, .c64 [0], .int .u64⟩ := ⟨by kernel_rfl, (by simp [Cells.len, z8, z32, z64]), rfl, (fun h => by first | rfl | cases h), (by kernel_rfl : Try.prog.underlying 60 = _), (fun h => by cases h)⟩
theorem ti62 : TIok Try.prog 62 ⟨1, 8, .c64 [0], .int .u64⟩ := ⟨by kernel_rfl, (by simp [Cells.len, z8, z32, z64]), rfl, (fun h => by first | rfl | cases h), (by kernel_rfl : Try.prog.underlying 62 = _), (fun h => by cases h)⟩
theorem ti65 : TIok Try.prog 65 ⟨1, 24, .cv [.nils], .slice 60⟩ := ⟨by kernel_rfl, (by simp [Cells.len, z8, z32, z64]), rfl, (fun h => by first | rfl | cases h), (by kernel_rfl : Try.prog.underlying 65 = _), (fun h => by cases h)⟩
theorem ti97 : TIok Try.prog 97 ⟨1, 8, .cv [.nilp], .ptr 114⟩ := ⟨by kernel_rfl, (by simp [Cells.len, z8, z32, z64]), rfl, (fun h => by first | rfl | cases h), (by kernel_rfl : Try.prog.underlying 97 = _), (fun h => by cases h)⟩
theorem ti108 : TIok Try.prog 108 ⟨1, 8, .cv [.nilp], .ptr 5⟩ := ⟨by kernel_rfl, (by simp [Cells.len, z8, z32, z64]), rfl, (fun h => by first | rfl | cases h), (by kernel_rfl : Try.prog.underlying 108 = _), (fun h => by cases h)⟩
theorem ttok : TTok Try.prog tt := by
  intro t i h
  unfold tt at h
  split at h
  · injection h with h; subst h; exact ti2
  · injection h with h; subst h; exact ti3
  · injection h with h; subst h; exact ti4
  · injection h with h; subst h; exact ti5
  · injection h with h; subst h; exact ti9
  · injection h with h; subst h; exact ti12
  · injection h with h; subst h; exact ti17
  · injection h with h; subst h; exact ti22
  · injection h with h; subst h; exact ti23
  · injection h with h; subst h; exact ti25
  · injection h with h; subst h; exact ti28
  · injection h with h; subst h; exact ti33
  · injection h with h; subst h; exact ti34
  · injection h with h; subst h; exact ti45
  · injection h with h; subst h; exact ti60
  · injection h with h; subst h; exact ti62
  · injection h with h; subst h; exact ti65
  · injection h with h; subst h; exact ti97
  · injection h with h; subst h; exact ti108
  · cases h
end Go.Proofs.Ytcbfflhggjkmpaa
