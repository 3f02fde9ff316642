/- The plain functions of the document's SHA-1, on bit vectors. -/
import Derived.Test.YtdddalcjcgeocaaSha1F
namespace Go.Proofs.Ytdddalcjcgeocaa
def be32 (bs : List U8) (t : Nat) : U32 :=
  (g8 bs (4 * t)).setWidth 32 <<< 24 ||| (g8 bs (4 * t + 1)).setWidth 32 <<< 16 ||| (g8 bs (4 * t + 2)).setWidth 32 <<< 8 ||| (g8 bs (4 * t + 3)).setWidth 32
def wNext (ws : List U32) (k : Nat) : U32 := rol (g32 ws (k + 13) ^^^ g32 ws (k + 8) ^^^ g32 ws (k + 2) ^^^ g32 ws k) 1
def wR (bs : List U8) : Nat → List U32
  | 0 => []
  | t + 1 => wR bs t ++ [if t < 16 then be32 bs t else wNext (wR bs t) (t - 16)]
theorem wR_length (bs : List U8) (t : Nat) : (wR bs t).length = t := by
  induction t with
  | zero => rfl
  | succ t ih => simp [wR, ih]
theorem wR_low (bs : List U8) (t : Nat) (h : t < 16) : wR bs (t + 1) = wR bs t ++ [be32 bs t] := by simp [wR, h]
theorem wR_high (bs : List U8) (k : Nat) : wR bs (k + 16 + 1) = wR bs (k + 16) ++ [wNext (wR bs (k + 16)) k] := by
  rw [wR, if_neg (by omega), Nat.add_sub_cancel]
def wRall (bs : List U8) : List U32 := wR bs 80
theorem wRall_length (bs : List U8) : (wRall bs).length = 80 := wR_length bs 80
def fR (t : Nat) (b c d : U32) : U32 :=
  if t < 20 then b &&& c ||| (b ^^^ 0xffffffff) &&& d else if t < 40 then b ^^^ c ^^^ d else if t < 60 then b &&& c ||| b &&& d ||| c &&& d else b ^^^ c ^^^ d
def kR (t : Nat) : U32 := if t < 20 then 0x5a827999 else if t < 40 then 0x6ed9eba1 else if t < 60 then 0x8f1bbcdc else 0xca62c1d6
def stepR (ws : List U32) (t : Nat) (v : V5) : V5 :=
  ⟨rol v.a 5 + fR t v.b v.c v.d + v.e + kR t + g32 ws t, v.a, rol v.b 30, v.c, v.d⟩
def roundsR (ws : List U32) (v : V5) : Nat → V5
  | 0 => v
  | k + 1 => stepR ws k (roundsR ws v k)
def blockR (h : V5) (bs : List U8) : V5 := addF (roundsR (wRall bs) h 80) h
def blocksR : Nat → V5 → List U8 → V5
  | 0, h, _ => h
  | n + 1, h, p => blocksR n (blockR h (p.take 64)) (p.drop 64)
def hashR (bs : List U8) : V5 := blocksR ((padF bs).length / 64) startF (padF bs)
def sumR (bs : List U8) : List U8 := outK (hashR bs).l 20
theorem sumR_length (bs : List U8) : (sumR bs).length = 20 := outK_length _ _
end Go.Proofs.Ytdddalcjcgeocaa
