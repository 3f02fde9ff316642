/- The plain functions behind SHA-1: the program's way of the block, on bit vectors. -/
import Derived.Test.YtdddalcjcgeocaaBase
namespace Go.Proofs.Ytdddalcjcgeocaa
def rol (x : U32) (n : Nat) : U32 := x <<< n ||| x >>> (32 - n)
def sp1 (bs : List U8) : Nat → List U32
  | 0 => z32 80
  | k + 1 => (sp1 bs k).set (k / 4) (g32 (sp1 bs k) (k / 4) <<< 8 ||| (g8 bs k).setWidth 32)
theorem sp1_length (bs : List U8) (k : Nat) : (sp1 bs k).length = 80 := by
  induction k with
  | zero => exact z32_length 80
  | succ k ih => simp [sp1, ih]
def sp2 (bs : List U8) : Nat → List U32
  | 0 => sp1 bs 64
  | k + 1 => (sp2 bs k).set (k + 16) (rol (g32 (sp2 bs k) (k + 13) ^^^ g32 (sp2 bs k) (k + 8) ^^^ g32 (sp2 bs k) (k + 2) ^^^ g32 (sp2 bs k) k) 1)
theorem sp2_length (bs : List U8) (k : Nat) : (sp2 bs k).length = 80 := by
  induction k with
  | zero => exact sp1_length bs 64
  | succ k ih => simp [sp2, ih]
def spreadF (bs : List U8) : List U32 := sp2 bs 64
theorem spreadF_length (bs : List U8) : (spreadF bs).length = 80 := sp2_length bs 64
structure V5 where
  (a b c d e : U32)
def V5.l (v : V5) : List U32 := [v.a, v.b, v.c, v.d, v.e]
theorem V5.l_length (v : V5) : v.l.length = 5 := rfl
def mixF (t : Nat) (b c d : U32) : U32 :=
  if t / 20 = 0 then d ^^^ (b &&& (c ^^^ d)) else if t / 20 = 2 then b &&& c ||| d &&& (b ||| c) else b ^^^ c ^^^ d
def ks : List U32 := [0x5a827999, 0x6ed9eba1, 0x8f1bbcdc, 0xca62c1d6]
theorem ks_length : ks.length = 4 := rfl
def stepF (ws : List U32) (t : Nat) (v : V5) : V5 :=
  ⟨rol v.a 5 + mixF t v.b v.c v.d + v.e + g32 ks (t / 20) + g32 ws t, v.a, rol v.b 30, v.c, v.d⟩
def roundsF (ws : List U32) (v : V5) : Nat → V5
  | 0 => v
  | k + 1 => stepF ws k (roundsF ws v k)
def addF (r h : V5) : V5 := ⟨r.a + h.a, r.b + h.b, r.c + h.c, r.d + h.d, r.e + h.e⟩
def addK (r h : List U32) : Nat → List U32
  | 0 => r
  | k + 1 => (addK r h k).set k (g32 (addK r h k) k + g32 h k)
theorem addK_length (r h : List U32) (k : Nat) : (addK r h k).length = r.length := by
  induction k with
  | zero => rfl
  | succ k ih => simp [addK, ih]
theorem addK_all (r h : V5) : addK r.l h.l 5 = (addF r h).l := rfl
def blockF (h : V5) (bs : List U8) : V5 := addF (roundsF (spreadF bs) h 80) h
def startF : V5 := ⟨0x67452301, 0xefcdab89, 0x98badcfe, 0x10325476, 0xc3d2e1f0⟩
/-! ### The hash of bytes -/
def zc (L : Nat) : Nat := (120 - L % 64) % 64
def lenB (M : U64) (j : Nat) : List U8 := (List.range j).map fun t => (M >>> (56 - 8 * t)).setWidth 8
def padF (bs : List U8) : List U8 := bs ++ [128] ++ List.replicate (zc (bs.length + 1)) 0 ++ lenB (BitVec.ofNat 64 (bs.length * 8)) 8
def blocksF : Nat → V5 → List U8 → V5
  | 0, h, _ => h
  | n + 1, h, p => blocksF n (blockF h (p.take 64)) (p.drop 64)
def hashF (bs : List U8) : V5 := blocksF ((padF bs).length / 64) startF (padF bs)
def outF (l : List U32) (i : Nat) : U8 := (g32 l (i / 4) >>> (24 - 8 * (i % 4))).setWidth 8
def outK (l : List U32) : Nat → List U8
  | 0 => z8 20
  | k + 1 => (outK l k).set k (outF l k)
theorem outK_length (l : List U32) (k : Nat) : (outK l k).length = 20 := by
  induction k with
  | zero => exact z8_length 20
  | succ k ih => simp [outK, ih]
def sumF (bs : List U8) : List U8 := outK (hashF bs).l 20
theorem sumF_length (bs : List U8) : (sumF bs).length = 20 := outK_length _ _
theorem lenB_length (M : U64) (j : Nat) : (lenB M j).length = j := by simp [lenB]
theorem lenB_succ (M : U64) (j : Nat) : lenB M (j + 1) = lenB M j ++ [(M >>> (56 - 8 * j)).setWidth 8] := by simp [lenB, List.range_succ]
theorem padF_length (bs : List U8) : (padF bs).length = 64 * ((padF bs).length / 64) := by
  simp only [padF, List.length_append, List.length_replicate, lenB_length, List.length_singleton, zc]
  omega
theorem padF_length_le (bs : List U8) : (padF bs).length ≤ bs.length + 73 := by
  simp only [padF, List.length_append, List.length_replicate, lenB_length, List.length_singleton, zc]
  omega
theorem hashF_step (n : Nat) (h : V5) (p : List U8) : blocksF (n + 1) h p = blocksF n (blockF h (p.take 64)) (p.drop 64) := rfl
end Go.Proofs.Ytdddalcjcgeocaa
