/- The document's padded bytes, plainly. -/
import Derived.Test.YtdddalcjcgeocaaSha1F
namespace Go.Proofs.Ytdddalcjcgeocaa

def zcG64 (L : Nat) : Nat := (120 - L % 64) % 64
def lenG64 (M : U64) (j : Nat) : List U8 := (List.range j).map fun k => if 7 - k < 8 then (M >>> (8 * (7 - k))).setWidth 8 else 0
theorem lenG64_length (M : U64) (j : Nat) : (lenG64 M j).length = j := by simp [lenG64]
theorem lenG64_succ (M : U64) (j : Nat) : lenG64 M (j + 1) = lenG64 M j ++ [if 7 - j < 8 then (M >>> (8 * (7 - j))).setWidth 8 else 0] := by simp [lenG64, List.range_succ]
def padG64 (bs : List U8) : List U8 := bs ++ [128] ++ List.replicate (zcG64 (bs.length + 1)) 0 ++ lenG64 (BitVec.ofNat 64 (bs.length * 8)) 8
theorem padG64_length (bs : List U8) : (padG64 bs).length = 64 * ((padG64 bs).length / 64) := by
  simp only [padG64, List.length_append, List.length_replicate, lenG64_length, List.length_singleton, zcG64]
  omega
theorem padG64_length_le (bs : List U8) : (padG64 bs).length ≤ bs.length + 73 := by
  simp only [padG64, List.length_append, List.length_replicate, lenG64_length, List.length_singleton, zcG64]
  omega

theorem lenG_B (M : U64) : lenG64 M 8 = lenB M 8 := by
  simp [lenG64, lenB, List.range_succ]
theorem padG_F (bs : List U8) : padG64 bs = padF bs := by
  rw [padG64, padF, lenG_B]; rfl
end Go.Proofs.Ytdddalcjcgeocaa
