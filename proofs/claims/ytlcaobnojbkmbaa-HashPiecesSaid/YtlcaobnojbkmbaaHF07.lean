/- The plain functions behind Sha256: the program's way of the block, on bit vectors. -/
import Derived.Test.YtlcaobnojbkmbaaEng1
namespace Go.Proofs.Ytlcaobnojbkmbaa.H7
def rol (x : U32) (n : Nat) : U32 := x <<< n ||| x >>> (32 - n)
def rr (x : U32) (n : Nat) : U32 := rol x (32 - n)
def sp1 (bs : List U8) : Nat → List U32
  | 0 => z32 64
  | k + 1 => (sp1 bs k).set (k / 4) (g32 (sp1 bs k) (k / 4) <<< 8 ||| (g8 bs k).setWidth 32)
theorem sp1_length (bs : List U8) (k : Nat) : (sp1 bs k).length = 64 := by
  induction k with
  | zero => exact z32_length 64
  | succ k ih => simp [sp1, ih]
def s0F (x : U32) : U32 := rr x 7 ^^^ rr x 18 ^^^ x >>> 3
def s1F (x : U32) : U32 := rr x 17 ^^^ rr x 19 ^^^ x >>> 10
def sp2 (bs : List U8) : Nat → List U32
  | 0 => sp1 bs 64
  | k + 1 => (sp2 bs k).set (k + 16) (g32 (sp2 bs k) k + s0F (g32 (sp2 bs k) (k + 1)) + g32 (sp2 bs k) (k + 9) + s1F (g32 (sp2 bs k) (k + 14)))
theorem sp2_length (bs : List U8) (k : Nat) : (sp2 bs k).length = 64 := by
  induction k with
  | zero => exact sp1_length bs 64
  | succ k ih => simp [sp2, ih]
def spreadF (bs : List U8) : List U32 := sp2 bs 48
theorem spreadF_length (bs : List U8) : (spreadF bs).length = 64 := sp2_length bs 48
structure V8 where
  (a b c d e f g h : U32)
def V8.l (v : V8) : List U32 := [v.a, v.b, v.c, v.d, v.e, v.f, v.g, v.h]
theorem V8.l_length (v : V8) : v.l.length = 8 := rfl
def ks : List U32 := [0x428a2f98, 0x71374491, 0xb5c0fbcf, 0xe9b5dba5, 0x3956c25b, 0x59f111f1, 0x923f82a4, 0xab1c5ed5, 0xd807aa98, 0x12835b01, 0x243185be, 0x550c7dc3, 0x72be5d74, 0x80deb1fe, 0x9bdc06a7, 0xc19bf174, 0xe49b69c1, 0xefbe4786, 0x0fc19dc6, 0x240ca1cc, 0x2de92c6f, 0x4a7484aa, 0x5cb0a9dc, 0x76f988da, 0x983e5152, 0xa831c66d, 0xb00327c8, 0xbf597fc7, 0xc6e00bf3, 0xd5a79147, 0x06ca6351, 0x14292967, 0x27b70a85, 0x2e1b2138, 0x4d2c6dfc, 0x53380d13, 0x650a7354, 0x766a0abb, 0x81c2c92e, 0x92722c85, 0xa2bfe8a1, 0xa81a664b, 0xc24b8b70, 0xc76c51a3, 0xd192e819, 0xd6990624, 0xf40e3585, 0x106aa070, 0x19a4c116, 0x1e376c08, 0x2748774c, 0x34b0bcb5, 0x391c0cb3, 0x4ed8aa4a, 0x5b9cca4f, 0x682e6ff3, 0x748f82ee, 0x78a5636f, 0x84c87814, 0x8cc70208, 0x90befffa, 0xa4506ceb, 0xbef9a3f7, 0xc67178f2]
theorem ks_length : ks.length = 64 := rfl
def big1 (e : U32) : U32 := rr e 6 ^^^ rr e 11 ^^^ rr e 25
def big0 (a : U32) : U32 := rr a 2 ^^^ rr a 13 ^^^ rr a 22
def t1F (ws : List U32) (t : Nat) (v : V8) : U32 := v.h + big1 v.e + (v.e &&& v.f ^^^ ~~~v.e &&& v.g) + g32 ks t + g32 ws t
def t2F (v : V8) : U32 := big0 v.a + (v.a &&& v.b ||| v.c &&& (v.a ||| v.b))
def stepF (ws : List U32) (t : Nat) (v : V8) : V8 :=
  ⟨t1F ws t v + t2F v, v.a, v.b, v.c, v.d + t1F ws t v, v.e, v.f, v.g⟩
def roundsF (ws : List U32) (v : V8) : Nat → V8
  | 0 => v
  | k + 1 => stepF ws k (roundsF ws v k)
def addF (r h : V8) : V8 := ⟨r.a + h.a, r.b + h.b, r.c + h.c, r.d + h.d, r.e + h.e, r.f + h.f, r.g + h.g, r.h + h.h⟩
def addK (r h : List U32) : Nat → List U32
  | 0 => r
  | k + 1 => (addK r h k).set k (g32 (addK r h k) k + g32 h k)
theorem addK_length (r h : List U32) (k : Nat) : (addK r h k).length = r.length := by
  induction k with
  | zero => rfl
  | succ k ih => simp [addK, ih]
theorem addK_all (r h : V8) : addK r.l h.l 8 = (addF r h).l := rfl
def blockF (h : V8) (bs : List U8) : V8 := addF (roundsF (spreadF bs) h 64) h
def startL : V8 := ⟨0x6a09e667, 0xbb67ae85, 0x3c6ef372, 0xa54ff53a, 0x510e527f, 0x9b05688c, 0x1f83d9ab, 0x5be0cd19⟩
def startS : V8 := ⟨0xc1059ed8, 0x367cd507, 0x3070dd17, 0xf70e5939, 0xffc00b31, 0x68581511, 0x64f98fa7, 0xbefa4fa4⟩
def startF (large : Bool) : V8 := if large then startL else startS
/-! ### The hash of bytes -/
def zc (L : Nat) : Nat := (120 - L % 64) % 64
def lenB (M : U64) (j : Nat) : List U8 := (List.range j).map fun t => (M >>> (56 - 8 * t)).setWidth 8
def padF (bs : List U8) : List U8 := bs ++ [128] ++ List.replicate (zc (bs.length + 1)) 0 ++ z8 0 ++ lenB (BitVec.ofNat 64 (bs.length * 8)) 8
def blocksF : Nat → V8 → List U8 → V8
  | 0, h, _ => h
  | n + 1, h, p => blocksF n (blockF h (p.take 64)) (p.drop 64)
def hashF (large : Bool) (bs : List U8) : V8 := blocksF ((padF bs).length / 64) (startF large) (padF bs)
def outF (l : List U32) (i : Nat) : U8 := (g32 l (i / 4) >>> (8 * (3 - i % 4))).setWidth 8
def outK (l : List U32) : Nat → List U8
  | 0 => z8 32
  | k + 1 => (outK l k).set k (outF l k)
theorem outK_length (l : List U32) (k : Nat) : (outK l k).length = 32 := by
  induction k with
  | zero => exact z8_length 32
  | succ k ih => simp [outK, ih]
def sumF (large : Bool) (bs : List U8) : List U8 := outK (hashF large bs).l 32
theorem sumF_length (large : Bool) (bs : List U8) : (sumF large bs).length = 32 := outK_length _ _
theorem lenB_length (M : U64) (j : Nat) : (lenB M j).length = j := by simp [lenB]
theorem lenB_succ (M : U64) (j : Nat) : lenB M (j + 1) = lenB M j ++ [(M >>> (56 - 8 * j)).setWidth 8] := by simp [lenB, List.range_succ]
theorem padF_length (bs : List U8) : (padF bs).length = 64 * ((padF bs).length / 64) := by
  simp only [padF, List.length_append, List.length_replicate, lenB_length, z8_length, List.length_singleton, zc]
  omega
theorem padF_length_le (bs : List U8) : (padF bs).length ≤ bs.length + 73 := by
  simp only [padF, List.length_append, List.length_replicate, lenB_length, z8_length, List.length_singleton, zc]
  omega
theorem hashF_step (n : Nat) (h : V8) (p : List U8) : blocksF (n + 1) h p = blocksF n (blockF h (p.take 64)) (p.drop 64) := rfl
end Go.Proofs.Ytlcaobnojbkmbaa.H7
