/- The plain functions behind Sha512: the program's way of the block, on bit vectors. -/
import Derived.Test.YtlcaobnojbkmbaaEng1
namespace Go.Proofs.Ytlcaobnojbkmbaa.H8
def rol (x : U64) (n : Nat) : U64 := x <<< n ||| x >>> (64 - n)
def rr (x : U64) (n : Nat) : U64 := rol x (64 - n)
def sp1 (bs : List U8) : Nat → List U64
  | 0 => z64 80
  | k + 1 => (sp1 bs k).set (k / 8) (g64 (sp1 bs k) (k / 8) <<< 8 ||| (g8 bs k).setWidth 64)
theorem sp1_length (bs : List U8) (k : Nat) : (sp1 bs k).length = 80 := by
  induction k with
  | zero => exact z64_length 80
  | succ k ih => simp [sp1, ih]
def s0F (x : U64) : U64 := rr x 1 ^^^ rr x 8 ^^^ x >>> 7
def s1F (x : U64) : U64 := rr x 19 ^^^ rr x 61 ^^^ x >>> 6
def sp2 (bs : List U8) : Nat → List U64
  | 0 => sp1 bs 128
  | k + 1 => (sp2 bs k).set (k + 16) (g64 (sp2 bs k) k + s0F (g64 (sp2 bs k) (k + 1)) + g64 (sp2 bs k) (k + 9) + s1F (g64 (sp2 bs k) (k + 14)))
theorem sp2_length (bs : List U8) (k : Nat) : (sp2 bs k).length = 80 := by
  induction k with
  | zero => exact sp1_length bs 128
  | succ k ih => simp [sp2, ih]
def spreadF (bs : List U8) : List U64 := sp2 bs 64
theorem spreadF_length (bs : List U8) : (spreadF bs).length = 80 := sp2_length bs 64
structure V8 where
  (a b c d e f g h : U64)
def V8.l (v : V8) : List U64 := [v.a, v.b, v.c, v.d, v.e, v.f, v.g, v.h]
theorem V8.l_length (v : V8) : v.l.length = 8 := rfl
def ks : List U64 := [0x428a2f98d728ae22, 0x7137449123ef65cd, 0xb5c0fbcfec4d3b2f, 0xe9b5dba58189dbbc, 0x3956c25bf348b538, 0x59f111f1b605d019, 0x923f82a4af194f9b, 0xab1c5ed5da6d8118, 0xd807aa98a3030242, 0x12835b0145706fbe, 0x243185be4ee4b28c, 0x550c7dc3d5ffb4e2, 0x72be5d74f27b896f, 0x80deb1fe3b1696b1, 0x9bdc06a725c71235, 0xc19bf174cf692694, 0xe49b69c19ef14ad2, 0xefbe4786384f25e3, 0x0fc19dc68b8cd5b5, 0x240ca1cc77ac9c65, 0x2de92c6f592b0275, 0x4a7484aa6ea6e483, 0x5cb0a9dcbd41fbd4, 0x76f988da831153b5, 0x983e5152ee66dfab, 0xa831c66d2db43210, 0xb00327c898fb213f, 0xbf597fc7beef0ee4, 0xc6e00bf33da88fc2, 0xd5a79147930aa725, 0x06ca6351e003826f, 0x142929670a0e6e70, 0x27b70a8546d22ffc, 0x2e1b21385c26c926, 0x4d2c6dfc5ac42aed, 0x53380d139d95b3df, 0x650a73548baf63de, 0x766a0abb3c77b2a8, 0x81c2c92e47edaee6, 0x92722c851482353b, 0xa2bfe8a14cf10364, 0xa81a664bbc423001, 0xc24b8b70d0f89791, 0xc76c51a30654be30, 0xd192e819d6ef5218, 0xd69906245565a910, 0xf40e35855771202a, 0x106aa07032bbd1b8, 0x19a4c116b8d2d0c8, 0x1e376c085141ab53, 0x2748774cdf8eeb99, 0x34b0bcb5e19b48a8, 0x391c0cb3c5c95a63, 0x4ed8aa4ae3418acb, 0x5b9cca4f7763e373, 0x682e6ff3d6b2b8a3, 0x748f82ee5defb2fc, 0x78a5636f43172f60, 0x84c87814a1f0ab72, 0x8cc702081a6439ec, 0x90befffa23631e28, 0xa4506cebde82bde9, 0xbef9a3f7b2c67915, 0xc67178f2e372532b, 0xca273eceea26619c, 0xd186b8c721c0c207, 0xeada7dd6cde0eb1e, 0xf57d4f7fee6ed178, 0x06f067aa72176fba, 0x0a637dc5a2c898a6, 0x113f9804bef90dae, 0x1b710b35131c471b, 0x28db77f523047d84, 0x32caab7b40c72493, 0x3c9ebe0a15c9bebc, 0x431d67c49c100d4c, 0x4cc5d4becb3e42b6, 0x597f299cfc657e2a, 0x5fcb6fab3ad6faec, 0x6c44198c4a475817]
theorem ks_length : ks.length = 80 := rfl
def big1 (e : U64) : U64 := rr e 14 ^^^ rr e 18 ^^^ rr e 41
def big0 (a : U64) : U64 := rr a 28 ^^^ rr a 34 ^^^ rr a 39
def t1F (ws : List U64) (t : Nat) (v : V8) : U64 := v.h + big1 v.e + (v.e &&& v.f ^^^ ~~~v.e &&& v.g) + g64 ks t + g64 ws t
def t2F (v : V8) : U64 := big0 v.a + (v.a &&& v.b ||| v.c &&& (v.a ||| v.b))
def stepF (ws : List U64) (t : Nat) (v : V8) : V8 :=
  ⟨t1F ws t v + t2F v, v.a, v.b, v.c, v.d + t1F ws t v, v.e, v.f, v.g⟩
def roundsF (ws : List U64) (v : V8) : Nat → V8
  | 0 => v
  | k + 1 => stepF ws k (roundsF ws v k)
def addF (r h : V8) : V8 := ⟨r.a + h.a, r.b + h.b, r.c + h.c, r.d + h.d, r.e + h.e, r.f + h.f, r.g + h.g, r.h + h.h⟩
def addK (r h : List U64) : Nat → List U64
  | 0 => r
  | k + 1 => (addK r h k).set k (g64 (addK r h k) k + g64 h k)
theorem addK_length (r h : List U64) (k : Nat) : (addK r h k).length = r.length := by
  induction k with
  | zero => rfl
  | succ k ih => simp [addK, ih]
theorem addK_all (r h : V8) : addK r.l h.l 8 = (addF r h).l := rfl
def blockF (h : V8) (bs : List U8) : V8 := addF (roundsF (spreadF bs) h 80) h
def startL : V8 := ⟨0x6a09e667f3bcc908, 0xbb67ae8584caa73b, 0x3c6ef372fe94f82b, 0xa54ff53a5f1d36f1, 0x510e527fade682d1, 0x9b05688c2b3e6c1f, 0x1f83d9abfb41bd6b, 0x5be0cd19137e2179⟩
def startS : V8 := ⟨0xcbbb9d5dc1059ed8, 0x629a292a367cd507, 0x9159015a3070dd17, 0x152fecd8f70e5939, 0x67332667ffc00b31, 0x8eb44a8768581511, 0xdb0c2e0d64f98fa7, 0x47b5481dbefa4fa4⟩
def startF (large : Bool) : V8 := if large then startL else startS
/-! ### The hash of bytes -/
def zc (L : Nat) : Nat := (240 - L % 128) % 128
def lenB (M : U64) (j : Nat) : List U8 := (List.range j).map fun t => (M >>> (56 - 8 * t)).setWidth 8
def padF (bs : List U8) : List U8 := bs ++ [128] ++ List.replicate (zc (bs.length + 1)) 0 ++ z8 8 ++ lenB (BitVec.ofNat 64 (bs.length * 8)) 8
def blocksF : Nat → V8 → List U8 → V8
  | 0, h, _ => h
  | n + 1, h, p => blocksF n (blockF h (p.take 128)) (p.drop 128)
def hashF (large : Bool) (bs : List U8) : V8 := blocksF ((padF bs).length / 128) (startF large) (padF bs)
def outF (l : List U64) (i : Nat) : U8 := (g64 l (i / 8) >>> (8 * (7 - i % 8))).setWidth 8
def outK (l : List U64) : Nat → List U8
  | 0 => z8 64
  | k + 1 => (outK l k).set k (outF l k)
theorem outK_length (l : List U64) (k : Nat) : (outK l k).length = 64 := by
  induction k with
  | zero => exact z8_length 64
  | succ k ih => simp [outK, ih]
def sumF (large : Bool) (bs : List U8) : List U8 := outK (hashF large bs).l 64
theorem sumF_length (large : Bool) (bs : List U8) : (sumF large bs).length = 64 := outK_length _ _
theorem lenB_length (M : U64) (j : Nat) : (lenB M j).length = j := by simp [lenB]
theorem lenB_succ (M : U64) (j : Nat) : lenB M (j + 1) = lenB M j ++ [(M >>> (56 - 8 * j)).setWidth 8] := by simp [lenB, List.range_succ]
theorem padF_length (bs : List U8) : (padF bs).length = 128 * ((padF bs).length / 128) := by
  simp only [padF, List.length_append, List.length_replicate, lenB_length, z8_length, List.length_singleton, zc]
  omega
theorem padF_length_le (bs : List U8) : (padF bs).length ≤ bs.length + 145 := by
  simp only [padF, List.length_append, List.length_replicate, lenB_length, z8_length, List.length_singleton, zc]
  omega
theorem hashF_step (n : Nat) (h : V8) (p : List U8) : blocksF (n + 1) h p = blocksF n (blockF h (p.take 128)) (p.drop 128) := rfl
end Go.Proofs.Ytlcaobnojbkmbaa.H8
