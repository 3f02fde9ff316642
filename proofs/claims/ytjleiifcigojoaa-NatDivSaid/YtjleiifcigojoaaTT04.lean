/- The types of this seat, as a table. -/
import Derived.Test.YtjleiifcigojoaaProg
import Derived.Test.YtjleiifcigojoaaFn
namespace Go.Proofs.Ytjleiifcigojoaa
open Go Go.RowKit
set_option linter.unusedSimpArgs false
def tt : TT
  | 2 => some ⟨1, 8, .cv [.int 0], .int .i64⟩
  | 3 => some ⟨1, 8, .cv [.int 0], .int .i64⟩
  | 4 => some ⟨1, 1, .cv [.bool false], .bool⟩
  | 5 => some ⟨1, 1, .c8 [0], .int .u8⟩
  | 9 => some ⟨1, 16, .cv [.str []], .string⟩
  | 12 => some ⟨1, 8, .c64 [0], .int .u64⟩
  | 17 => some ⟨1, 8, .cv [.nilp], .ptr 92⟩
  | 22 => some ⟨1, 24, .cv [.nils], .slice 32⟩
  | 23 => some ⟨1, 24, .cv [.nils], .slice 32⟩
  | 25 => some ⟨1, 8, .cv [.int 0], .int .i64⟩
  | 32 => some ⟨1, 4, .c32 [0], .int .u32⟩
  | 34 => some ⟨1, 8, .c64 [0], .int .u64⟩
  | 44 => some ⟨1, 24, .cv [.nils], .slice 5⟩
  | 57 => some ⟨1, 24, .cv [.nils], .slice 34⟩
  | 65 => some ⟨1, 8, .c64 [0], .int .u64⟩
  | 88 => some ⟨1, 8, .cv [.nilp], .ptr 5⟩
  | _ => none
theorem ti2 : TIok Try.prog 2 ⟨1, 8, .cv [.int 0], .int .i64⟩ := ⟨by kernel_rfl, (by simp [Cells.len, z8, z32, z64]), rfl, (fun h => by first | rfl | cases h), (by kernel_rfl : Try.prog.underlying 2 = _), (fun h => by cases h)⟩
theorem ti3 : TIok Try.prog 3 ⟨1, 8, .cv [.int 0], .int .i64⟩ := ⟨by kernel_rfl, (by simp [Cells.len, z8, z32, z64]), rfl, (fun h => by first | rfl | cases h), (by kernel_rfl : Try.prog.underlying 3 = _), (fun h => by cases h)⟩
theorem ti4 : TIok Try.prog 4 ⟨1, 1, .cv [.bool false], .bool⟩ := ⟨by kernel_rfl, (by simp [Cells.len, z8, z32, z64]), rfl, (fun h => by first | rfl | cases h), (by kernel_rfl : Try.prog.underlying 4 = _), (fun h => by cases h)⟩
theorem ti5 : TIok Try.prog 5 ⟨1, 1, .c8 [0], .int .u8⟩ := ⟨by kernel_rfl, (by simp [Cells.len, z8, z32, z64]), rfl, (fun h => by first | rfl | cases h), (by kernel_rfl : Try.prog.underlying 5 = _), (fun h => by cases h)⟩
theorem ti9 : TIok Try.prog 9 ⟨1, 16, .cv [.str []], .string⟩ := ⟨by kernel_rfl, (by simp [Cells.len, z8, z32, z64]), rfl, (fun h => by first | rfl | cases h), (by kernel_rfl : Try.prog.underlying 9 = _), (fun h => by cases h)⟩
theorem ti12 : TIok Try.prog 12 ⟨1, 8, .c64 [0], .int .u64⟩ := ⟨by kernel_rfl, (by simp [Cells.len, z8, z32, z64]), rfl, (fun h => by first | rfl | cases h), (by kernel_rfl : Try.prog.underlying 12 = _), (fun h => by cases h)⟩
theorem ti17 : TIok Try.prog 17 ⟨1, 8, .cv [.nilp], .ptr 92⟩ := ⟨by kernel_rfl, (by simp [Cells.len, z8, z32, z64]), rfl, (fun h => by first | rfl | cases h), (by kernel_rfl : Try.prog.underlying 17 = _), (fun h => by cases h)⟩
theorem ti22 : TIok Try.prog 22 ⟨1, 24, .cv [.nils], .slice 32⟩ := ⟨by kernel_rfl, (by simp [Cells.len, z8, z32, z64]), rfl, (fun h => by first | rfl | cases h), (by kernel_rfl : Try.prog.underlying 22 = _), (fun h => by cases h)⟩
theorem ti23 : TIok Try.prog 23 ⟨1, 24, .cv [.nils], .slice 32⟩ := ⟨by kernel_rfl, (by simp [Cells.len, z8, z32, z64]), rfl, (fun h => by first | rfl | cases h), (by kernel_rfl : Try.prog.underlying 23 = _), (fun h => by cases h)⟩
theorem ti25 : TIok Try.prog 25 ⟨1, 8, .cv [.int 0], .int .i64⟩ := ⟨by kernel_rfl, (by simp [Cells.len, z8, z32, z64]), rfl, (fun h => by first | rfl | cases h), (by kernel_rfl : Try.prog.underlying 25 = _), (fun h => by cases h)⟩
theorem ti32 : TIok Try.prog 32 ⟨1, 4, .c32 [0], .int .u32⟩ := ⟨by kernel_rfl, (by simp [Cells.len, z8, z32, z64]), rfl, (fun h => by first | rfl | cases h), (by kernel_rfl : Try.prog.underlying 32 = _), (fun h => by cases h)⟩
theorem ti34 : TIok Try.prog 34 ⟨1, 8, .c64 [0], .int .u64⟩ := ⟨by kernel_rfl, (by simp [Cells.len, z8, z32, z64]), rfl, (fun h => by first | rfl | cases h), (by kernel_rfl : Try.prog.underlying 34 = _), (fun h => by cases h)⟩
theorem ti44 : TIok Try.prog 44 ⟨1, 24, .cv [.nils], .slice 5⟩ := ⟨by kernel_rfl, (by simp [Cells.len, z8, z32, z64]), rfl, (fun h => by first | rfl | cases h), (by kernel_rfl : Try.prog.underlying 44 = _), (fun h => by cases h)⟩
theorem ti57 : TIok Try.prog 57 ⟨1, 24, .cv [.nils], .slice 34⟩ := ⟨by kernel_rfl, (by simp [Cells.len, z8, z32, z64]), rfl, (fun h => by first | rfl | cases h), (by kernel_rfl : Try.prog.underlying 57 = _), (fun h => by cases h)⟩
theorem ti65 : TIok Try.prog 65 ⟨1, 8, .c64 [0], .int .u64⟩ := ⟨by kernel_rfl, (by simp [Cells.len, z8, z32, z64]), rfl, (fun h => by first | rfl | cases h), (by kernel_rfl : Try.prog.underlying 65 = _), (fun h => by cases h)⟩
theorem ti88 : TIok Try.prog 88 ⟨1, 8, .cv [.nilp], .ptr 5⟩ := ⟨by kernel_rfl, (by simp [Cells.len, z8, z32, z64]), rfl, (fun h => by first | rfl | cases h), (by kernel_rfl : Try.prog.underlying 88 = _), (fun h => by cases h)⟩
theorem ttok : TTok Try.prog tt := by
  intro t i h
  unfold tt at h
  split at h
  · injection h with h; subst h; exact ti2
  · injection h with h; subst h; exact ti3
  · injection h with h; subst h; exact ti4
  · injection h with h; subst h; exact ti5
  · injection h with h; subst h; exact ti9
  · injection h with h; subst h; exact ti12
  · injection h with h; subst h; exact ti17
  · injection h with h; subst h; exact ti22
  · injection h with h; subst h; exact ti23
  · injection h with h; subst h; exact ti25
  · injection h with h; subst h; exact ti32
  · injection h with h; subst h; exact ti34
  · injection h with h; subst h; exact ti44
  · injection h with h; subst h; exact ti57
  · injection h with h; subst h; exact ti65
  · injection h with h; subst h; exact ti88
  · cases h
end Go.Proofs.Ytjleiifcigojoaa
