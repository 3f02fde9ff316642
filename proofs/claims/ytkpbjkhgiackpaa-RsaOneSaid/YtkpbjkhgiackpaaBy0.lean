/- Numbers as bytes, the highest first. No program in sight. -/
import Derived.Test.YtkpbjkhgiackpaaQu0
import Derived.Test.YtkpbjkhgiackpaaNs
namespace Go.Proofs.Ytkpbjkhgiackpaa
open Go Go.RowKit
set_option linter.unusedVariables false
set_option linter.unusedSimpArgs false
/-- The number of bytes. -/
def nb : List U8 → Nat
  | [] => 0
  | x :: r => x.toNat * 256 ^ r.length + nb r
theorem nb_app : ∀ l m : List U8, nb (l ++ m) = nb l * 256 ^ m.length + nb m
  | [], m => by simp [nb]
  | x :: r, m => by
    simp only [List.cons_append, nb, nb_app r m, List.length_append, Nat.pow_add, Nat.add_mul, Nat.mul_assoc, Nat.add_assoc]
theorem nb_one (x : U8) : nb [x] = x.toNat := by simp [nb]
theorem nb_take_succ (b : List U8) (i : Nat) (h : i < b.length) : nb (b.take (i + 1)) = nb (b.take i) * 256 + (g8 b i).toNat := by
  rw [List.take_succ_eq_append_getElem h, nb_app, nb_one]
  simp [g8, h]
theorem nb_drop (b : List U8) (i : Nat) (h : i < b.length) : nb (b.drop i) = (g8 b i).toNat * 256 ^ (b.length - 1 - i) + nb (b.drop (i + 1)) := by
  rw [List.drop_eq_getElem_cons h, nb, List.length_drop, show b.length - (i + 1) = b.length - 1 - i by omega]
  simp [g8, h]
theorem nb_lt : ∀ b : List U8, nb b < 256 ^ b.length
  | [] => by simp [nb]
  | x :: r => by
    have h1 := nb_lt r
    have h2 := x.isLt
    have h3 : (x.toNat + 1) * 256 ^ r.length ≤ 256 * 256 ^ r.length := Nat.mul_le_mul_right _ (by omega)
    simp only [nb, List.length_cons, Nat.pow_succ]
    rw [Nat.add_mul, Nat.one_mul] at h3
    omega
/-- A number in so many bytes. -/
def layL (v n : Nat) : List U8 := (List.range n).map fun j => BitVec.ofNat 8 (v / 256 ^ (n - 1 - j))
theorem layL_len (v n : Nat) : (layL v n).length = n := by simp [layL]
theorem g8_layL {v n j : Nat} (h : j < n) : g8 (layL v n) j = BitVec.ofNat 8 (v / 256 ^ (n - 1 - j)) := by
  simp [g8, layL, h]
theorem nb_ext {x y : List U8} (hl : x.length = y.length) (h : ∀ j, j < x.length → g8 x j = g8 y j) : x = y := by
  refine List.ext_getElem hl fun j h1 h2 => ?_
  have := h j h1
  simpa [g8, h1, h2] using this
/-- Laid so far: the last i bytes. -/
def LayI (v n : Nat) (s : Nat × List U8) : Prop := s.1 ≤ n ∧ s.2.length = n ∧ ∀ j, j < n → n - s.1 ≤ j → g8 s.2 j = BitVec.ofNat 8 (v / 256 ^ (n - 1 - j))
theorem layi_start (v n : Nat) : LayI v n (0, List.replicate n 0) := ⟨Nat.zero_le _, by simp, fun j h1 h2 => by dsimp only at h2; omega⟩
theorem layi_step {v n i : Nat} {p : List U8} {x : U8} (hi : i < n) (h : LayI v n (i, p)) (hx : x.toNat = v / 256 ^ i % 256) : LayI v n (i + 1, p.set (n - 1 - i) x) := by
  obtain ⟨h1, h2, h3⟩ := h
  dsimp only at h1 h2 h3
  refine ⟨by dsimp only; omega, by simp [h2], fun j hj hj2 => ?_⟩
  dsimp only at hj2 ⊢
  by_cases e : j = n - 1 - i
  · subst e
    rw [show n - 1 - (n - 1 - i) = i by omega]
    have : g8 (p.set (n - 1 - i) x) (n - 1 - i) = x := by simp [g8, show n - 1 - i < p.length by omega]
    rw [this]
    exact BitVec.eq_of_toNat_eq (by rw [hx, BitVec.toNat_ofNat])
  · have : g8 (p.set (n - 1 - i) x) j = g8 p j := by simp [g8, List.getD_eq_getElem?_getD, List.getElem?_set, Ne.symm e]
    rw [this]
    exact h3 j hj (by omega)
theorem layi_end {v n : Nat} {p : List U8} (h : LayI v n (n, p)) : p = layL v n := by
  obtain ⟨h1, h2, h3⟩ := h
  dsimp only at h1 h2 h3
  exact nb_ext (by rw [h2, layL_len]) fun j hj => by rw [h3 j (by omega) (by omega), g8_layL (by omega)]
theorem pow_256_4 (k : Nat) : (256 : Nat) ^ k = 4294967296 ^ (k / 4) * 256 ^ (k % 4) := by
  rw [show (4294967296 : Nat) = 256 ^ 4 from rfl, ← Nat.pow_mul, ← Nat.pow_add, Nat.div_add_mod]
theorem pow_256_2 (k : Nat) : (256 : Nat) ^ k = 65536 ^ (k / 2) * 256 ^ (k % 2) := by
  rw [show (65536 : Nat) = 256 ^ 2 from rfl, ← Nat.pow_mul, ← Nat.pow_add, Nat.div_add_mod]
theorem byte32 (a : List U32) (i : Nat) : nv32 a / 256 ^ i % 256 = (g32 a (i / 4)).toNat / 256 ^ (i % 4) % 256 := by
  rw [pow_256_4 i, ← Nat.div_div_eq_div_mul, nv32_div, nv32_drop]
  have hr : i % 4 < 4 := Nat.mod_lt _ (by decide)
  generalize nv32 (a.drop (i / 4 + 1)) = R
  generalize i % 4 = r at *
  have e : (4294967296 : Nat) * R = 256 ^ r * (256 * (256 ^ (3 - r) * R)) := by
    rw [← Nat.mul_assoc 256, ← Nat.pow_succ', ← Nat.mul_assoc, ← Nat.pow_add, show r + (3 - r + 1) = 4 by omega]
  rw [e, Nat.add_mul_div_left _ _ (Nat.pow_pos (by decide)), Nat.add_mul_mod_self_left]
theorem byte16 {d : List U64} (hd : D16 d) (i : Nat) : nv16 d / 256 ^ i % 256 = (g64 d (i / 2)).toNat / 256 ^ (i % 2) % 256 := by
  rw [pow_256_2 i, ← Nat.div_div_eq_div_mul, nv16_div d hd, nv16_drop]
  have hr : i % 2 < 2 := Nat.mod_lt _ (by decide)
  generalize nv16 (d.drop (i / 2 + 1)) = R
  generalize i % 2 = r at *
  have e : (65536 : Nat) * R = 256 ^ r * (256 * (256 ^ (1 - r) * R)) := by
    rw [← Nat.mul_assoc 256, ← Nat.pow_succ', ← Nat.mul_assoc, ← Nat.pow_add, show r + (1 - r + 1) = 2 by omega]
  rw [e, Nat.add_mul_div_left _ _ (Nat.pow_pos (by decide)), Nat.add_mul_mod_self_left]
theorem lay_byte32 (a : List U32) (i : Nat) : (((g32 a (i / 4)) >>> (8 * (i % 4))).setWidth 8 : U8).toNat = nv32 a / 256 ^ i % 256 := by
  rw [byte32, BitVec.toNat_setWidth, BitVec.toNat_ushiftRight, Nat.shiftRight_eq_div_pow, Nat.pow_mul]
theorem g32_val (a : List U32) (j : Nat) : (g32 a j).toNat = nv32 a / 4294967296 ^ j % 4294967296 := by
  rw [nv32_div, nv32_drop, Nat.add_mul_mod_self_left, Nat.mod_eq_of_lt (g32 a j).isLt]
/-- Read so far: the first i bytes. -/
def ReadI (b : List U8) (N : Nat) (s : Nat × List U32) : Prop := s.1 ≤ b.length ∧ s.2.length = N ∧ nv32 s.2 = nb (b.take s.1) * 256 ^ (b.length - s.1)
theorem readi_start (b : List U8) (N : Nat) : ReadI b N (0, List.replicate N 0) := by
  refine ⟨Nat.zero_le _, by simp, ?_⟩
  dsimp only; rw [nv32_zeros]; simp [nb]
theorem readi_step {b : List U8} {N i k : Nat} {p : List U32} {y : U32} (hi : i < b.length) (hk : k = b.length - 1 - i) (hN : k / 4 < N) (h : ReadI b N (i, p)) (hy : y.toNat = (g8 b i).toNat * 256 ^ (k % 4)) : ReadI b N (i + 1, p.set (k / 4) (g32 p (k / 4) ||| y)) := by
  obtain ⟨h1, h2, h3⟩ := h
  dsimp only at h1 h2 h3
  have hr : k % 4 < 4 := Nat.mod_lt _ (by decide)
  have hx := (g8 b i).isLt
  have hw : ∃ M, (g32 p (k / 4)).toNat = 2 ^ (8 * (k % 4 + 1)) * M := by
    rw [g32_val, h3, show b.length - i = k + 1 by omega, Nat.pow_succ, pow_256_4 k]
    generalize nb (b.take i) = V
    have e1 : V * (4294967296 ^ (k / 4) * 256 ^ (k % 4) * 256) = 4294967296 ^ (k / 4) * (256 ^ (k % 4 + 1) * V) := by
      rw [Nat.pow_succ, Nat.mul_comm V, Nat.mul_assoc, Nat.mul_assoc, Nat.mul_assoc]
    have e2 : (4294967296 : Nat) = 256 ^ (k % 4 + 1) * 256 ^ (3 - k % 4) := by rw [← Nat.pow_add, show k % 4 + 1 + (3 - k % 4) = 4 by omega]
    rw [e1, Nat.mul_div_cancel_left _ (Nat.pow_pos (by decide))]
    conv => enter [1, M, 1, 2]; rw [e2]
    rw [Nat.mul_mod_mul_left, Nat.pow_mul]
    exact ⟨_, rfl⟩
  obtain ⟨M, hM⟩ := hw
  have hor : (g32 p (k / 4) ||| y).toNat = (g32 p (k / 4)).toNat + y.toNat := by
    have hlt : y.toNat < 2 ^ (8 * (k % 4 + 1)) := by
      rw [hy, Nat.pow_mul, show (2 : Nat) ^ 8 = 256 from rfl, Nat.pow_succ, Nat.mul_comm]
      exact Nat.mul_lt_mul_of_pos_left hx (Nat.pow_pos (by decide))
    rw [BitVec.toNat_or, hM, ← Nat.two_pow_add_eq_or_of_lt hlt]
  have s1 := nv32_set p (k / 4) (g32 p (k / 4) ||| y) (by omega)
  refine ⟨by dsimp only; omega, by simp [h2], ?_⟩
  dsimp only
  rw [hor, Nat.mul_add] at s1
  rw [nb_take_succ b i hi, show b.length - (i + 1) = k by omega, Nat.add_mul, Nat.mul_assoc, ← Nat.pow_succ', show k.succ = b.length - i by omega, ← h3]
  have e : 4294967296 ^ (k / 4) * y.toNat = (g8 b i).toNat * 256 ^ k := by
    rw [hy, pow_256_4 k, Nat.mul_left_comm]
  omega
theorem readi_end {b : List U8} {N : Nat} {p : List U32} (h : ReadI b N (b.length, p)) : nv32 p = nb b := by
  obtain ⟨h1, h2, h3⟩ := h
  dsimp only at h3
  rw [h3, List.take_of_length_le (Nat.le_refl _), Nat.sub_self, Nat.pow_zero, Nat.mul_one]
/-- Read so far: the last i bytes, as digits. -/
def ReadD (b : List U8) (N : Nat) (s : Nat × List U64) : Prop := s.1 ≤ b.length ∧ s.2.length = N ∧ D16 s.2 ∧ (∀ j, s.1 ≤ 2 * j → g64 s.2 j = 0) ∧ (∀ j, s.1 = 2 * j + 1 → (g64 s.2 j).toNat < 256) ∧ nv16 s.2 = nb (b.drop (b.length - s.1))
theorem readd_start (b : List U8) (N : Nat) : ReadD b N (0, List.replicate N 0) := by
  have hz : ∀ j, g64 (List.replicate N 0) j = 0 := fun j => by
    by_cases h : j < N <;> simp [g64, List.getD_eq_getElem?_getD, h]
  refine ⟨Nat.zero_le _, by simp, D16.zeros _, fun j _ => hz j, fun j h => by dsimp only at h; omega, ?_⟩
  dsimp only; rw [nv16_zeros]; simp [nb]
theorem readd_step {b : List U8} {N i : Nat} {p : List U64} {y : U64} (hi : i < b.length) (hN : i / 2 < N) (h : ReadD b N (i, p)) (hy : y.toNat = (g8 b (b.length - 1 - i)).toNat * 256 ^ (i % 2)) : ReadD b N (i + 1, p.set (i / 2) (g64 p (i / 2) + y)) := by
  obtain ⟨h1, h2, hD, h3, h4, h5⟩ := h
  dsimp only at h1 h2 hD h3 h4 h5
  have hx := (g8 b (b.length - 1 - i)).isLt
  have hgs : ∀ j, g64 (p.set (i / 2) (g64 p (i / 2) + y)) j = if j = i / 2 then g64 p (i / 2) + y else g64 p j := fun j => by
    by_cases e : j = i / 2
    · subst e; simp [g64, show i / 2 < p.length by omega]
    · simp [g64, List.getD_eq_getElem?_getD, List.getElem?_set, e, Ne.symm e]
  have hs0 : (g64 p (i / 2) + y).toNat = (g64 p (i / 2)).toNat + y.toNat ∧ (g64 p (i / 2)).toNat + y.toNat < 65536 ∧ (i % 2 = 0 → (g64 p (i / 2)).toNat + y.toNat < 256) := by
    rcases Nat.mod_two_eq_zero_or_one i with e | e
    · have z := h3 (i / 2) (by omega)
      rw [e, Nat.pow_zero, Nat.mul_one] at hy
      rw [z]
      have z0 : (0 : U64).toNat = 0 := rfl
      rw [BitVec.toNat_add, z0]
      exact ⟨by omega, by omega, fun _ => by omega⟩
    · have z := h4 (i / 2) (by omega)
      rw [e, Nat.pow_one] at hy
      rw [BitVec.toNat_add]
      exact ⟨by omega, by omega, fun h => by omega⟩
  obtain ⟨e1, e2, e3⟩ := hs0
  have s1 := nv16_set p (i / 2) (g64 p (i / 2) + y) (by omega)
  refine ⟨by dsimp only; omega, by simp [h2], hD.set _ (by omega), fun j hj => ?_, fun j hj => ?_, ?_⟩
  · dsimp only at hj ⊢
    rw [hgs, if_neg (by omega)]; exact h3 j (by omega)
  · dsimp only at hj ⊢
    rw [hgs, if_pos (by omega)]
    rw [e1]; exact e3 (by omega)
  · dsimp only
    rw [e1, Nat.mul_add] at s1
    rw [show b.length - (i + 1) = b.length - 1 - i by omega, nb_drop b _ (by omega), show b.length - 1 - (b.length - 1 - i) = i by omega, show b.length - 1 - i + 1 = b.length - i by omega, ← h5]
    have e : 65536 ^ (i / 2) * y.toNat = (g8 b (b.length - 1 - i)).toNat * 256 ^ i := by
      rw [hy, pow_256_2 i, Nat.mul_left_comm]
    omega
theorem readd_end {b : List U8} {N : Nat} {p : List U64} (h : ReadD b N (b.length, p)) : D16 p ∧ nv16 p = nb b := by
  obtain ⟨h1, h2, hD, h3, h4, h5⟩ := h
  dsimp only at hD h5
  rw [Nat.sub_self, List.drop_zero] at h5
  exact ⟨hD, h5⟩
end Go.Proofs.Ytkpbjkhgiackpaa
