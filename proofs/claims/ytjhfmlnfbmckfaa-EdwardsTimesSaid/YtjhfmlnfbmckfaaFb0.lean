/- A number's bytes, and the number of bytes: no program in sight. -/
import Derived.Test.YtjhfmlnfbmckfaaVal2
namespace Go.Proofs.Ytjhfmlnfbmckfaa
open Go Go.RowKit
set_option linter.unusedVariables false
set_option linter.unusedSimpArgs false

/-- One more byte goes into the words. -/
theorem byte_word {v x k : Nat} (hk : k < 32) (hv : v < 256 ^ k) (hx : x < 256) : (g64 (words 4 v) (k / 8)).toNat < 2 ^ (8 * (k % 8)) := by
  have e := val_part (words 4 v) (k / 8) (8 * (k % 8)) (64 - 8 * (k % 8)) (by rw [words_len]; omega) (by omega)
  have hb : val (words 4 v) < 2 ^ (64 * (k / 8) + 8 * (k % 8)) := by
    rw [val_words, show 64 * (k / 8) + 8 * (k % 8) = 8 * k by omega, Nat.pow_mul]
    exact Nat.lt_of_le_of_lt (Nat.mod_le _ _) hv
  rw [Nat.div_eq_of_lt hb, Nat.zero_mod] at e
  have hw := (g64 (words 4 v) (k / 8)).isLt
  generalize (g64 (words 4 v) (k / 8)).toNat = w at *
  have h2 : w / 2 ^ (8 * (k % 8)) < 2 ^ (64 - 8 * (k % 8)) := by
    rw [Nat.div_lt_iff_lt_mul (Nat.two_pow_pos _), ← Nat.pow_add, show 64 - 8 * (k % 8) + 8 * (k % 8) = 64 by omega]; exact hw
  rw [Nat.mod_eq_of_lt h2] at e
  rcases Nat.lt_or_ge w (2 ^ (8 * (k % 8))) with h | h
  · exact h
  · have := Nat.div_pos h (Nat.two_pow_pos _); omega
theorem byte_shl (x : U8) {s : Nat} (hs : s ≤ 56) : ((x.setWidth 64 : U64) <<< s).toNat = 2 ^ s * x.toNat := by
  have hx := x.isLt
  rw [BitVec.toNat_shiftLeft, BitVec.toNat_setWidth, Nat.shiftLeft_eq, Nat.mod_eq_of_lt (a := x.toNat) (by omega), Nat.mul_comm]
  apply Nat.mod_eq_of_lt
  calc 2 ^ s * x.toNat < 2 ^ s * 2 ^ 8 := Nat.mul_lt_mul_of_pos_left hx (Nat.two_pow_pos s)
    _ = 2 ^ (s + 8) := (Nat.pow_add 2 s 8).symm
    _ ≤ 2 ^ 64 := Nat.pow_le_pow_right (by decide) (by omega)
theorem byte_in {v k : Nat} {x : U8} {w : U64} (hk : k < 32) (hv : v < 256 ^ k) (hw : w.toNat = (g64 (words 4 v) (k / 8)).toNat + 2 ^ (8 * (k % 8)) * x.toNat) : (words 4 v).set (k / 8) w = words 4 (v + 256 ^ k * x.toNat) := by
  refine eq_words (by rw [List.length_set, words_len]) ?_
  have hx := x.isLt
  have hs := val_set (words 4 v) (k / 8) w (by rw [words_len]; omega)
  have e1 : (18446744073709551616 : Nat) ^ (k / 8) * 2 ^ (8 * (k % 8)) = 256 ^ k := by
    rw [show (18446744073709551616 : Nat) = 2 ^ 64 from rfl, ← Nat.pow_mul, ← Nat.pow_add, show (256 : Nat) = 2 ^ 8 from rfl, ← Nat.pow_mul]; congr 1; omega
  rw [hw, Nat.mul_add, ← Nat.mul_assoc, e1] at hs
  have hlt : v + 256 ^ k * x.toNat < 18446744073709551616 ^ 4 := by
    have h3 : 256 ^ k * x.toNat ≤ 256 ^ k * 255 := Nat.mul_le_mul_left _ (by omega)
    have h4 : (256 : Nat) ^ (k + 1) ≤ 256 ^ 32 := Nat.pow_le_pow_right (by decide) (by omega)
    rw [Nat.pow_succ] at h4
    have h5 : (256 : Nat) ^ 32 = 18446744073709551616 ^ 4 := by decide
    omega
  have hv4 : val (words 4 v) = v := by rw [val_words]; exact Nat.mod_eq_of_lt (by omega)
  rw [Nat.mod_eq_of_lt hlt]
  rw [hv4] at hs
  omega
theorem byte_add {v k : Nat} {x : U8} (hk : k < 32) (hv : v < 256 ^ k) : (words 4 v).set (k / 8) (g64 (words 4 v) (k / 8) + (x.setWidth 64 : U64) <<< (8 * (k % 8))) = words 4 (v + 256 ^ k * x.toNat) := by
  refine byte_in hk hv ?_
  have h1 := byte_word hk hv x.isLt
  have h2 := byte_shl x (s := 8 * (k % 8)) (by omega)
  rw [BitVec.toNat_add, h2]
  have hx := x.isLt
  apply Nat.mod_eq_of_lt
  have h3 : 2 ^ (8 * (k % 8)) * x.toNat ≤ 2 ^ (8 * (k % 8)) * 255 := Nat.mul_le_mul_left _ (by omega)
  have h4 : (2 : Nat) ^ (8 * (k % 8) + 8) ≤ 2 ^ 64 := Nat.pow_le_pow_right (by decide) (by omega)
  rw [Nat.pow_add] at h4
  omega
theorem byte_or {v k : Nat} {x : U8} (hk : k < 32) (hv : v < 256 ^ k) : (words 4 v).set (k / 8) (g64 (words 4 v) (k / 8) ||| (x.setWidth 64 : U64) <<< (8 * (k % 8))) = words 4 (v + 256 ^ k * x.toNat) := by
  refine byte_in hk hv ?_
  have h1 := byte_word hk hv x.isLt
  have h2 := byte_shl x (s := 8 * (k % 8)) (by omega)
  rw [BitVec.toNat_or, h2, Nat.or_comm, ← Nat.two_pow_add_eq_or_of_lt h1, Nat.add_comm]
theorem byte_out (v : Nat) {k : Nat} (hk : k < 32) : ((g64 (words 4 v) (k / 8)) >>> (8 * (k % 8))).setWidth 8 = (BitVec.ofNat 8 (v / 2 ^ (8 * k)) : U8) := by
  apply BitVec.eq_of_toNat_eq
  have e := val_part (words 4 v) (k / 8) (8 * (k % 8)) 8 (by rw [words_len]; omega) (by omega)
  rw [show 64 * (k / 8) + 8 * (k % 8) = 8 * k by omega, val_words] at e
  rw [BitVec.toNat_setWidth, BitVec.toNat_ushiftRight, Nat.shiftRight_eq_div_pow, BitVec.toNat_ofNat, e]
  have h5 : (18446744073709551616 : Nat) ^ 4 = 2 ^ (8 * k) * (2 ^ 8 * 2 ^ (248 - 8 * k)) := by
    rw [← Nat.pow_add, ← Nat.pow_add, show 8 * k + (8 + (248 - 8 * k)) = 256 by omega]
  rw [h5, Nat.mod_mul_right_div_self, Nat.mod_mul_right_mod]
def LayI (v : Nat) (s : Nat × List U8) : Prop := s.1 ≤ 32 ∧ s.2.length = 32 ∧ ∀ j, j < s.1 → g8 s.2 j = g8 (byts 32 v) j
theorem g8_set_ne {l : List U8} {i j : Nat} {v : U8} (h : i ≠ j) : g8 (l.set i v) j = g8 l j := by
  simp [g8, List.getD_eq_getElem?_getD, List.getElem?_set, h]
theorem g8_set_eq {l : List U8} {i : Nat} {v : U8} (h : i < l.length) : g8 (l.set i v) i = v := by
  simp [g8, List.getD_eq_getElem?_getD, List.getElem?_set, h]
theorem lay_step {v k : Nat} {p : List U8} (hk : k < 32) (h : LayI v (k, p)) : LayI v (k + 1, p.set k (((g64 (words 4 v) (k / 8)) >>> (8 * (k % 8))).setWidth 8)) := by
  obtain ⟨h1, h2, h3⟩ := h
  dsimp only at h1 h2 h3
  refine ⟨by dsimp only; omega, by simp [h2], fun j hj => ?_⟩
  dsimp only at hj ⊢
  by_cases hjk : j = k
  · subst hjk
    rw [g8_set_eq (by omega), g8_byts 32 _ j hk, byte_out v hk]
  · rw [g8_set_ne (Ne.symm hjk)]; exact h3 j (by omega)
theorem lay_end {v : Nat} {p : List U8} (h : LayI v (32, p)) : p = byts 32 v := by
  obtain ⟨h1, h2, h3⟩ := h
  exact list8_ext (by rw [byts_len]; exact h2) fun j hj => h3 j (by dsimp only at h2 ⊢; omega)
/-- Bytes so far. -/
def WhoI (bs : List U8) (s : Nat × List U64) : Prop := s.1 ≤ 32 ∧ s.2 = words 4 (bval (bs.take s.1))
theorem who_lt {bs : List U8} {k : Nat} : bval (bs.take k) < 256 ^ k := Nat.lt_of_lt_of_le (bval_lt _) (Nat.pow_le_pow_right (by decide) (by rw [List.length_take]; omega))
theorem who_or {bs : List U8} {p : List U64} {k : Nat} (hb : bs.length = 32) (hk : k < 32) (h : WhoI bs (k, p)) : WhoI bs (k + 1, p.set (k / 8) (g64 p (k / 8) ||| ((g8 bs k).setWidth 64 : U64) <<< (8 * (k % 8)))) := by
  obtain ⟨h1, h2⟩ := h
  dsimp only at h1 h2
  refine ⟨by dsimp only; omega, ?_⟩
  dsimp only
  rw [h2, byte_or hk who_lt, bval_take_succ bs k (by omega)]
theorem who_add {bs : List U8} {p : List U64} {k : Nat} (hb : bs.length = 32) (hk : k < 32) (h : WhoI bs (k, p)) : WhoI bs (k + 1, p.set (k / 8) (g64 p (k / 8) + ((g8 bs k).setWidth 64 : U64) <<< (8 * (k % 8)))) := by
  obtain ⟨h1, h2⟩ := h
  dsimp only at h1 h2
  refine ⟨by dsimp only; omega, ?_⟩
  dsimp only
  rw [h2, byte_add hk who_lt, bval_take_succ bs k (by omega)]
theorem who_start (bs : List U8) : WhoI bs (0, [0#64, 0#64, 0#64, 0#64]) := ⟨Nat.zero_le _, by dsimp only; rw [List.take_zero]; decide⟩
theorem who_end {bs : List U8} {p : List U64} (hb : bs.length = 32) (h : WhoI bs (32, p)) : p = words 4 (bval bs) := by
  have h2 : p = words 4 (bval (bs.take 32)) := h.2
  rw [h2, List.take_of_length_le (by omega)]
end Go.Proofs.Ytjhfmlnfbmckfaa
