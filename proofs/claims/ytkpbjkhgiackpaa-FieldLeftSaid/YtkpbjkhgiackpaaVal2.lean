/- Numbers as lists of digits of 32 bits and of bytes, the lowest first. No program in sight. -/
import Derived.Test.YtkpbjkhgiackpaaVal
namespace Go.Proofs.Ytkpbjkhgiackpaa
open Go Go.RowKit
set_option linter.unusedVariables false
set_option linter.unusedSimpArgs false
/-- A part of a word is that part of the number. -/
theorem val_part : ∀ (l : List U64) (q s w : Nat), q < l.length → s + w ≤ 64 → (g64 l q).toNat / 2 ^ s % 2 ^ w = val l / 2 ^ (64 * q + s) % 2 ^ w
  | [], q, _, _, h, _ => by simp at h
  | x :: r, 0, s, w, _, h => by
    have e1 : (18446744073709551616 : Nat) = 2 ^ s * (2 ^ w * 2 ^ (64 - s - w)) := by
      rw [← Nat.pow_add, ← Nat.pow_add, show s + (w + (64 - s - w)) = 64 by omega]
    show x.toNat / 2 ^ s % 2 ^ w = (x.toNat + 18446744073709551616 * val r) / 2 ^ (64 * 0 + s) % 2 ^ w
    rw [Nat.mul_zero, Nat.zero_add, e1, Nat.mul_assoc (2 ^ s), Nat.add_mul_div_left _ _ (Nat.two_pow_pos s), Nat.mul_assoc, Nat.add_mul_mod_self_left]
  | x :: r, q + 1, s, w, hq, h => by
    have ih := val_part r q s w (by simpa using hq) h
    have hx := x.isLt
    show (g64 r q).toNat / 2 ^ s % 2 ^ w = (x.toNat + 18446744073709551616 * val r) / 2 ^ (64 * (q + 1) + s) % 2 ^ w
    rw [ih, show 64 * (q + 1) + s = 64 + (64 * q + s) by omega, Nat.pow_add 2 64, ← Nat.div_div_eq_div_mul, show (x.toNat + 18446744073709551616 * val r) / 2 ^ 64 = val r by omega]
theorem list64_ext {l m : List U64} (h : l.length = m.length) (he : ∀ j, j < l.length → g64 l j = g64 m j) : l = m := by
  apply List.ext_getElem h
  intro j h1 h2
  have := he j h1
  simpa [g64, List.getD_eq_getElem?_getD, h1, h2] using this
theorem list8_ext {l m : List U8} (h : l.length = m.length) (he : ∀ j, j < l.length → g8 l j = g8 m j) : l = m := by
  apply List.ext_getElem h
  intro j h1 h2
  have := he j h1
  simpa [g8, List.getD_eq_getElem?_getD, h1, h2] using this
/-- A number's lowest n digits of 32 bits. -/
def digs : Nat → Nat → List U64
  | 0, _ => []
  | n + 1, v => BitVec.ofNat 64 (v % 4294967296) :: digs n (v / 4294967296)
theorem digs_len : ∀ n v, (digs n v).length = n
  | 0, _ => rfl
  | n + 1, v => by simp [digs, digs_len n]
theorem g64_digs : ∀ (n v j : Nat), j < n → g64 (digs n v) j = BitVec.ofNat 64 (v / 2 ^ (32 * j) % 4294967296)
  | 0, _, _, h => by omega
  | n + 1, v, 0, _ => by simp [digs, g64]
  | n + 1, v, j + 1, h => by
    have ih := g64_digs n (v / 4294967296) j (by omega)
    show g64 (digs n (v / 4294967296)) j = _
    rw [ih, show 32 * (j + 1) = 32 + 32 * j by omega, Nat.pow_add 2 32, ← Nat.div_div_eq_div_mul]
/-- What digits are worth. -/
def dval : List U64 → Nat
  | [] => 0
  | x :: r => x.toNat + 4294967296 * dval r
theorem dval_digs : ∀ n v, dval (digs n v) = v % 4294967296 ^ n
  | 0, v => by simp [digs, dval, Nat.mod_one]
  | n + 1, v => by
    simp only [digs, dval, dval_digs n, BitVec.toNat_ofNat]
    rw [Nat.pow_succ (n := 4294967296), Nat.mul_comm (4294967296 ^ n), Nat.mod_mul, Nat.mod_eq_of_lt (a := v % 4294967296) (by omega)]
/-- Each is a digit. -/
def Digs (l : List U64) : Prop := ∀ j, (g64 l j).toNat < 4294967296
theorem Digs.tail {x : U64} {r : List U64} (h : Digs (x :: r)) : Digs r := fun j => h (j + 1)
theorem digs_dval : ∀ l : List U64, Digs l → digs l.length (dval l) = l
  | [], _ => rfl
  | x :: r, h => by
    have h0 : x.toNat < 4294967296 := h 0
    simp only [dval, List.length_cons, digs]
    congr 1
    · apply BitVec.eq_of_toNat_eq
      simp only [BitVec.toNat_ofNat]
      omega
    · rw [show (x.toNat + 4294967296 * dval r) / 4294967296 = dval r by omega]
      exact digs_dval r h.tail
theorem digs_ok (n v : Nat) : Digs (digs n v) := fun j => by
  rcases Nat.lt_or_ge j n with h | h
  · rw [g64_digs n v j h, BitVec.toNat_ofNat]; omega
  · simp [g64, List.getD_eq_getElem?_getD, digs_len, h]
theorem dval_lt : ∀ l : List U64, Digs l → dval l < 4294967296 ^ l.length
  | [], _ => by simp [dval]
  | x :: r, h => by
    have h1 := dval_lt r h.tail
    have h2 : x.toNat < 4294967296 := h 0
    simp only [dval, List.length_cons, Nat.pow_succ]
    omega
theorem dval_set : ∀ (l : List U64) (j : Nat) (v : U64), j < l.length → dval (l.set j v) + 4294967296 ^ j * (g64 l j).toNat = dval l + 4294967296 ^ j * v.toNat
  | [], _, _, h => by simp at h
  | x :: r, 0, v, h => by simp [dval, g64]; omega
  | x :: r, j + 1, v, h => by
    have ih := dval_set r j v (by simpa using h)
    have hg : g64 (x :: r) (j + 1) = g64 r j := rfl
    simp only [List.set_cons_succ, dval, hg, Nat.pow_succ]
    have h3 : 4294967296 * (dval (r.set j v) + 4294967296 ^ j * (g64 r j).toNat) = 4294967296 * (dval r + 4294967296 ^ j * v.toNat) := by rw [ih]
    rw [Nat.mul_add, Nat.mul_add, ← Nat.mul_assoc, ← Nat.mul_assoc] at h3
    rw [Nat.mul_comm (4294967296 ^ j) 4294967296]
    omega
theorem dval_take_succ : ∀ (l : List U64) (k : Nat), k < l.length → dval (l.take (k + 1)) = dval (l.take k) + 4294967296 ^ k * (g64 l k).toNat
  | [], _, h => by simp at h
  | x :: r, 0, _ => by simp [dval, g64]
  | x :: r, k + 1, h => by
    have ih := dval_take_succ r k (by simpa using h)
    have hg : g64 (x :: r) (k + 1) = g64 r k := rfl
    rw [List.take_succ_cons, List.take_succ_cons, dval, dval, ih, hg, Nat.pow_succ, Nat.mul_add, ← Nat.mul_assoc, Nat.mul_comm 4294967296 (4294967296 ^ k)]
    omega
theorem dval_app : ∀ (l m : List U64), dval (l ++ m) = dval l + 4294967296 ^ l.length * dval m
  | [], m => by simp [dval]
  | x :: r, m => by
    simp only [List.cons_append, dval, dval_app r m, List.length_cons, Nat.pow_succ]
    rw [Nat.mul_add, ← Nat.mul_assoc, Nat.mul_comm 4294967296 (4294967296 ^ r.length)]
    omega
theorem Digs.set {l : List U64} (h : Digs l) (i : Nat) {v : U64} (hv : v.toNat < 4294967296) : Digs (l.set i v) := fun j => by
  by_cases hij : i = j
  · subst hij
    rcases Nat.lt_or_ge i l.length with hi | hi
    · rw [g64_set_eq hi]; exact hv
    · rw [List.set_eq_of_length_le hi]; exact h i
  · rw [g64_set_ne hij]; exact h j
/-- A number's lowest n bytes. -/
def byts : Nat → Nat → List U8
  | 0, _ => []
  | n + 1, v => BitVec.ofNat 8 v :: byts n (v / 256)
theorem byts_len : ∀ n v, (byts n v).length = n
  | 0, _ => rfl
  | n + 1, v => by simp [byts, byts_len n]
theorem g8_byts : ∀ (n v j : Nat), j < n → g8 (byts n v) j = BitVec.ofNat 8 (v / 2 ^ (8 * j))
  | 0, _, _, h => by omega
  | n + 1, v, 0, _ => by simp [byts, g8]
  | n + 1, v, j + 1, h => by
    have ih := g8_byts n (v / 256) j (by omega)
    show g8 (byts n (v / 256)) j = _
    rw [ih, show 8 * (j + 1) = 8 + 8 * j by omega, Nat.pow_add 2 8, ← Nat.div_div_eq_div_mul]
/-- What bytes are worth. -/
def bval : List U8 → Nat
  | [] => 0
  | x :: r => x.toNat + 256 * bval r
theorem bval_byts : ∀ n v, bval (byts n v) = v % 256 ^ n
  | 0, v => by simp [byts, bval, Nat.mod_one]
  | n + 1, v => by
    simp only [byts, bval, bval_byts n, BitVec.toNat_ofNat]
    rw [show (2 : Nat) ^ 8 = 256 from rfl, Nat.pow_succ, Nat.mul_comm (256 ^ n), Nat.mod_mul]
theorem byts_bval : ∀ l : List U8, byts l.length (bval l) = l
  | [] => rfl
  | x :: r => by
    have h0 := x.isLt
    simp only [bval, List.length_cons, byts]
    congr 1
    · apply BitVec.eq_of_toNat_eq
      simp only [BitVec.toNat_ofNat]
      omega
    · rw [show (x.toNat + 256 * bval r) / 256 = bval r by omega]
      exact byts_bval r
theorem bval_lt : ∀ l : List U8, bval l < 256 ^ l.length
  | [] => by simp [bval]
  | x :: r => by
    have h1 := bval_lt r
    have h2 := x.isLt
    simp only [bval, List.length_cons, Nat.pow_succ]
    omega
theorem bval_take_succ : ∀ (l : List U8) (k : Nat), k < l.length → bval (l.take (k + 1)) = bval (l.take k) + 256 ^ k * (g8 l k).toNat
  | [], _, h => by simp at h
  | x :: r, 0, _ => by simp [bval, g8]
  | x :: r, k + 1, h => by
    have ih := bval_take_succ r k (by simpa using h)
    have hg : g8 (x :: r) (k + 1) = g8 r k := rfl
    rw [List.take_succ_cons, List.take_succ_cons, bval, bval, ih, hg, Nat.pow_succ, Nat.mul_add, ← Nat.mul_assoc, Nat.mul_comm 256 (256 ^ k)]
    omega
end Go.Proofs.Ytkpbjkhgiackpaa
