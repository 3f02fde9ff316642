/- The types of this seat, as a table. -/
import Derived.Test.YtpononlbfealjaaProg
import Derived.Test.YtpononlbfealjaaFn
namespace Go.Proofs.Ytpononlbfealjaa
open Go Go.RowKit
set_option linter.unusedSimpArgs false
def tt : TT
  | 2 => some ⟨1, 8, .cv [.int 0], .int .i64⟩
  | 3 => some ⟨1, 8, .cv [.int 0], .int .i64⟩
  | 4 => some ⟨1, 1, .cv [.bool false], .bool⟩
  | 5 => some ⟨1, 1, .c8 [0], .int .u8⟩
  | 9 => some ⟨1, 16, .cv [.str []], .string⟩
  | 12 => some ⟨1, 8, .c64 [0], .int .u64⟩
  | 17 => some ⟨1, 8, .cv [.nilp], .ptr 83⟩
  | 22 => some ⟨1, 8, .c64 [0], .int .u64⟩
  | 23 => some ⟨8, 64, .c64 [0, 0, 0, 0, 0, 0, 0, 0], .array 8 22⟩
  | 24 => some ⟨128, 128, .c8 (z8 128), .array 128 5⟩
  | 25 => some ⟨1, 8, .cv [.int 0], .int .i64⟩
  | 31 => some ⟨1, 24, .cv [.nils], .slice 5⟩
  | 34 => some ⟨64, 64, .c8 (z8 64), .array 64 5⟩
  | 36 => some ⟨1, 8, .c64 [0], .int .u64⟩
  | 40 => some ⟨48, 48, .c8 (z8 48), .array 48 5⟩
  | 43 => some ⟨80, 640, .c64 (z64 80), .array 80 22⟩
  | 45 => some ⟨1, 24, .cv [.nils], .slice 22⟩
  | 55 => some ⟨1, 24, .cv [.nils], .slice 60⟩
  | 56 => some ⟨1, 24, .cv [.nils], .slice 60⟩
  | 60 => some ⟨1, 4, .c32 [0], .int .u32⟩
  | 79 => some ⟨1, 8, .cv [.nilp], .ptr 5⟩
  | _ => none
theorem ti2 : TIok Try.prog 2 ⟨1, 8, .cv [.int 0], .int .i64⟩ := ⟨by kernel_rfl, (by simp [Cells.len, z8, z32, z64]), rfl, (fun h => by first | rfl | cases h), (by kernel_rfl : Try.prog.underlying 2 = _), (fun h => by cases h)⟩
theorem ti3 : TIok Try.prog 3 ⟨1, 8, .cv [.int 0], .int .i64⟩ := ⟨by kernel_rfl, (by simp [Cells.len, z8, z32, z64]), rfl, (fun h => by first | rfl | cases h), (by kernel_rfl : Try.prog.underlying 3 = _), (fun h => by cases h)⟩
theorem ti4 : TIok Try.prog 4 ⟨1, 1, .cv [.bool false], .bool⟩ := ⟨by kernel_rfl, (by simp [Cells.len, z8, z32, z64]), rfl, (fun h => by first | rfl | cases h), (by kernel_rfl : Try.prog.underlying 4 = _), (fun h => by cases h)⟩
theorem ti5 : TIok Try.prog 5 ⟨1, 1, .c8 [0], .int .u8⟩ := ⟨by kernel_rfl, (by simp [Cells.len, z8, z32, z64]), rfl, (fun h => by first | rfl | cases h), (by kernel_rfl : Try.prog.underlying 5 = _), (fun h => by cases h)⟩
theorem ti9 : TIok Try.prog 9 ⟨1, 16, .cv [.str []], .string⟩ := ⟨by kernel_rfl, (by simp [Cells.len, z8, z32, z64]), rfl, (fun h => by first | rfl | cases h), (by kernel_rfl : Try.prog.underlying 9 = _), (fun h => by cases h)⟩
theorem ti12 : TIok Try.prog 12 ⟨1, 8, .c64 [0], .int .u64⟩ := ⟨by kernel_rfl, (by simp [Cells.len, z8, z32, z64]), rfl, (fun h => by first | rfl | cases h), (by kernel_rfl : Try.prog.underlying 12 = _), (fun h => by cases h)⟩
theorem ti17 : TIok Try.prog 17 ⟨1, 8, .cv [.nilp], .ptr 83⟩ := ⟨by kernel_rfl, (by simp [Cells.len, z8, z32, z64]), rfl, (fun h => by first | rfl | cases h), (by kernel_rfl : Try.prog.underlying 17 = _), (fun h => by cases h)⟩
theorem ti22 : TIok Try.prog 22 ⟨1, 8, .c64 [0], .int .u64⟩ := ⟨by kernel_rfl, (by simp [Cells.len, z8, z32, z64]), rfl, (fun h => by first | rfl | cases h), (by kernel_rfl : Try.prog.underlying 22 = _), (fun h => by cases h)⟩
theorem ti23 : TIok Try.prog 23 ⟨8, 64, .c64 [0, 0, 0, 0, 0, 0, 0, 0], .array 8 22⟩ := ⟨by kernel_rfl, (by simp [Cells.len, z8, z32, z64]), rfl, (fun h => by first | rfl | cases h), (by kernel_rfl : Try.prog.underlying 23 = _), (fun _ => by kernel_rfl)⟩
theorem ti24 : TIok Try.prog 24 ⟨128, 128, .c8 (z8 128), .array 128 5⟩ := ⟨by kernel_rfl, (by simp [Cells.len, z8, z32, z64]), rfl, (fun h => by first | rfl | cases h), (by kernel_rfl : Try.prog.underlying 24 = _), (fun _ => by kernel_rfl)⟩
theorem ti25 : TIok Try.prog 25 ⟨1, 8, .cv [.int 0], .int .i64⟩ := ⟨by kernel_rfl, (by simp [Cells.len, z8, z32, z64]), rfl, (fun h => by first | rfl | cases h), (by kernel_rfl : Try.prog.underlying 25 = _), (fun h => by cases h)⟩
theorem ti31 : TIok Try.prog 31 ⟨1, 24, .cv [.nils], .slice 5⟩ := ⟨by kernel_rfl, (by simp [Cells.len, z8, z32, z64]), rfl, (fun h => by first | rfl | cases h), (by kernel_rfl : Try.prog.underlying 31 = _), (fun h => by cases h)⟩
theorem ti34 : TIok Try.prog 34 ⟨64, 64, .c8 (z8 64), .array 64 5⟩ := ⟨by kernel_rfl, (by simp [Cells.len, z8, z32, z64]), rfl, (fun h => by first | rfl | cases h), (by kernel_rfl : Try.prog.underlying 34 = _), (fun _ => by kernel_rfl)⟩
theorem ti36 : TIok Try.prog 36 ⟨1, 8, .c64 [0], .int .u64⟩ := ⟨by kernel_rfl, (by simp [Cells.len, z8, z32, z64]), rfl, (fun h => by first | rfl | cases h), (by kernel_rfl : Try.prog.underlying 36 = _), (fun h => by cases h)⟩
theorem ti40 : TIok Try.prog 40 ⟨48, 48, .c8 (z8 48), .array 48 5⟩ := ⟨by kernel_rfl, (by simp [Cells.len, z8, z32, z64]), rfl, (fun h => by first | rfl | cases h), (by kernel_rfl : Try.prog.underlying 40 = _), (fun _ => by kernel_rfl)⟩
theorem ti43 : TIok Try.prog 43 ⟨80, 640, .c64 (z64 80), .array 80 22⟩ := ⟨by kernel_rfl, (by simp [Cells.len, z8, z32, z64]), rfl, (fun h => by first | rfl | cases h), (by kernel_rfl : Try.prog.underlying 43 = _), (fun _ => by kernel_rfl)⟩
theorem ti45 : TIok Try.prog 45 ⟨1, 24, .cv [.nils], .slice 22⟩ := ⟨by kernel_rfl, (by simp [Cells.len, z8, z32, z64]), rfl, (fun h => by first | rfl | cases h), (by kernel_rfl : Try.prog.underlying 45 = _), (fun h => by cases h)⟩
theorem ti55 : TIok Try.prog 55 ⟨1, 24, .cv [.nils], .slice 60⟩ := ⟨by kernel_rfl, (by simp [Cells.len, z8, z32, z64]), rfl, (fun h => by first | rfl | cases h), (by kernel_rfl : Try.prog.underlying 55 = _), (fun h => by cases h)⟩
theorem ti56 : TIok Try.prog 56 ⟨1, 24, .cv [.nils], .slice 60⟩ := ⟨by kernel_rfl, (by simp [Cells.len, z8, z32, z64]), rfl, (fun h => by first | rfl | cases h), (by kernel_rfl : Try.prog.underlying 56 = _), (fun h => by cases h)⟩
theorem ti60 : TIok Try.prog 60 ⟨1, 4, .c32 [0], .int .u32⟩ := ⟨by kernel_rfl, (by simp [Cells.len, z8, z32, z64]), rfl, (fun h => by first | rfl | cases h), (by kernel_rfl : Try.prog.underlying 60 = _), (fun h => by cases h)⟩
theorem ti79 : TIok Try.prog 79 ⟨1, 8, .cv [.nilp], .ptr 5⟩ := ⟨by kernel_rfl, (by simp [Cells.len, z8, z32, z64]), rfl, (fun h => by first | rfl | cases h), (by kernel_rfl : Try.prog.underlying 79 = _), (fun h => by cases h)⟩
theorem ttok : TTok Try.prog tt := by
  intro t i h
  unfold tt at h
  split at h
  · injection h with h; subst h; exact ti2
  · injection h with h; subst h; exact ti3
  · injection h with h; subst h; exact ti4
  · injection h with h; subst h; exact ti5
  · injection h with h; subst h; exact ti9
  · injection h with h; subst h; exact ti12
  · injection h with h; subst h; exact ti17
  · injection h with h; subst h; exact ti22
  · injection h with h; subst h; exact ti23
  · injection h with h; subst h; exact ti24
  · injection h with h; subst h; exact ti25
  · injection h with h; subst h; exact ti31
  · injection h with h; subst h; exact ti34
  · injection h with h; subst h; exact ti36
  · injection h with h; subst h; exact ti40
  · injection h with h; subst h; exact ti43
  · injection h with h; subst h; exact ti45
  · injection h with h; subst h; exact ti55
  · injection h with h; subst h; exact ti56
  · injection h with h; subst h; exact ti60
  · injection h with h; subst h; exact ti79
  · cases h
end Go.Proofs.Ytpononlbfealjaa
