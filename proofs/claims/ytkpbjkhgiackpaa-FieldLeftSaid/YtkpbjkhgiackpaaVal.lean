/- Numbers as lists of words, the lowest first: what they are worth. No program in sight. -/
import Derived.Test.YtkpbjkhgiackpaaEng3
namespace Go.Proofs.Ytkpbjkhgiackpaa
open Go Go.RowKit
set_option linter.unusedVariables false
set_option linter.unusedSimpArgs false
/-- What words are worth. -/
def val : List U64 → Nat
  | [] => 0
  | x :: r => x.toNat + 18446744073709551616 * val r
/-- A number's lowest n words. -/
def words : Nat → Nat → List U64
  | 0, _ => []
  | n + 1, v => BitVec.ofNat 64 v :: words n (v / 18446744073709551616)
theorem words_len : ∀ n v, (words n v).length = n
  | 0, _ => rfl
  | n + 1, v => by simp [words, words_len n]
theorem val_words : ∀ n v, val (words n v) = v % 18446744073709551616 ^ n
  | 0, v => by simp [words, val, Nat.mod_one]
  | n + 1, v => by
    simp only [words, val, val_words n, BitVec.toNat_ofNat]
    rw [show (2 : Nat) ^ 64 = 18446744073709551616 from rfl, Nat.pow_succ, Nat.mul_comm (18446744073709551616 ^ n), Nat.mod_mul]
theorem val_lt : ∀ l : List U64, val l < 18446744073709551616 ^ l.length
  | [] => by simp [val]
  | x :: r => by
    have h1 := val_lt r
    have h2 := x.isLt
    simp only [val, List.length_cons, Nat.pow_succ]
    omega
theorem words_val : ∀ l : List U64, words l.length (val l) = l
  | [] => rfl
  | x :: r => by
    have h2 := x.isLt
    simp only [val, List.length_cons, words]
    congr 1
    · apply BitVec.eq_of_toNat_eq
      simp only [BitVec.toNat_ofNat]
      omega
    · rw [show (x.toNat + 18446744073709551616 * val r) / 18446744073709551616 = val r by omega]
      exact words_val r
theorem words_mod : ∀ n v, words n (v % 18446744073709551616 ^ n) = words n v := fun n v => by
  have h := words_val (words n v)
  rwa [words_len, val_words] at h
theorem eq_words {l : List U64} {n v : Nat} (h : l.length = n) (hv : val l = v % 18446744073709551616 ^ n) : l = words n v := by
  have := words_val l
  rw [h, hv, words_mod] at this
  exact this.symm
theorem val_inj {l m : List U64} (h : l.length = m.length) (hv : val l = val m) : l = m := by
  rw [← words_val l, ← words_val m, h, hv]
theorem four {l : List U64} (h : l.length = 4) : ∃ a b c d, l = [a, b, c, d] := by
  match l, h with
  | [a, b, c, d], _ => exact ⟨a, b, c, d, rfl⟩
theorem val_set : ∀ (l : List U64) (j : Nat) (v : U64), j < l.length → val (l.set j v) + 18446744073709551616 ^ j * (g64 l j).toNat = val l + 18446744073709551616 ^ j * v.toNat
  | [], _, _, h => by simp at h
  | x :: r, 0, v, h => by simp [val, g64]; omega
  | x :: r, j + 1, v, h => by
    have ih := val_set r j v (by simpa using h)
    have hg : g64 (x :: r) (j + 1) = g64 r j := rfl
    simp only [List.set_cons_succ, val, hg, Nat.pow_succ]
    have h3 : 18446744073709551616 * (val (r.set j v) + 18446744073709551616 ^ j * (g64 r j).toNat) = 18446744073709551616 * (val r + 18446744073709551616 ^ j * v.toNat) := by rw [ih]
    rw [Nat.mul_add, Nat.mul_add, ← Nat.mul_assoc, ← Nat.mul_assoc] at h3
    rw [Nat.mul_comm (18446744073709551616 ^ j) 18446744073709551616]
    omega
/-- The lowest k words. -/
theorem val_take_succ : ∀ (l : List U64) (k : Nat), k < l.length → val (l.take (k + 1)) = val (l.take k) + 18446744073709551616 ^ k * (g64 l k).toNat
  | [], _, h => by simp at h
  | x :: r, 0, _ => by simp [val, g64]
  | x :: r, k + 1, h => by
    have ih := val_take_succ r k (by simpa using h)
    have hg : g64 (x :: r) (k + 1) = g64 r k := rfl
    rw [List.take_succ_cons, List.take_succ_cons, val, val, ih, hg, Nat.pow_succ, Nat.mul_add, ← Nat.mul_assoc, Nat.mul_comm 18446744073709551616 (18446744073709551616 ^ k)]
    omega
theorem g64_set_ne {l : List U64} {i j : Nat} {v : U64} (h : i ≠ j) : g64 (l.set i v) j = g64 l j := by
  simp [g64, List.getD_eq_getElem?_getD, List.getElem?_set, h]
theorem g64_set_eq {l : List U64} {i : Nat} {v : U64} (h : i < l.length) : g64 (l.set i v) i = v := by
  simp [g64, List.getD_eq_getElem?_getD, List.getElem?_set, h]
/-- The sum, the lowest k words done. -/
theorem add_word (x y c : U64) (hc : c.toNat ≤ 1) : (x + y + c).toNat + 18446744073709551616 * (BitVec.ofNat 64 ((x.toNat + y.toNat + c.toNat) / 2 ^ 64)).toNat = x.toNat + y.toNat + c.toNat ∧ (BitVec.ofNat 64 ((x.toNat + y.toNat + c.toNat) / 2 ^ 64)).toNat ≤ 1 := by
  have h1 := x.isLt
  have h2 := y.isLt
  simp only [BitVec.toNat_add, BitVec.toNat_ofNat]
  omega
theorem sub_word (x y c : U64) (hc : c.toNat ≤ 1) : (x - y - c).toNat + y.toNat + c.toNat = x.toNat + 18446744073709551616 * (if x.toNat < y.toNat + c.toNat then (1 : U64) else 0).toNat ∧ (if x.toNat < y.toNat + c.toNat then (1 : U64) else 0).toNat ≤ 1 := by
  have h1 := x.isLt
  have h2 := y.isLt
  split <;> simp only [BitVec.toNat_sub, BitVec.reduceToNat] <;> omega
end Go.Proofs.Ytkpbjkhgiackpaa
