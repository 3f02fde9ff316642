/- Numbers below the order: no program in sight. -/
import Derived.Test.YtkpbjkhgiackpaaVal2
import Derived.Test.YtkpbjkhgiackpaaMx0
namespace Go.Proofs.Ytkpbjkhgiackpaa.Sc
open Go Go.RowKit
set_option linter.unusedVariables false
set_option linter.unusedSimpArgs false

/-- One more byte goes into the words. -/
theorem byte_word {v x k : Nat} (hk : k < 32) (hv : v < 256 ^ k) (hx : x < 256) : (g64 (words 4 v) (k / 8)).toNat < 2 ^ (8 * (k % 8)) := by
  have e := val_part (words 4 v) (k / 8) (8 * (k % 8)) (64 - 8 * (k % 8)) (by rw [words_len]; omega) (by omega)
  have hb : val (words 4 v) < 2 ^ (64 * (k / 8) + 8 * (k % 8)) := by
    rw [val_words, show 64 * (k / 8) + 8 * (k % 8) = 8 * k by omega, Nat.pow_mul]
    exact Nat.lt_of_le_of_lt (Nat.mod_le _ _) hv
  rw [Nat.div_eq_of_lt hb, Nat.zero_mod] at e
  have hw := (g64 (words 4 v) (k / 8)).isLt
  generalize (g64 (words 4 v) (k / 8)).toNat = w at *
  have h2 : w / 2 ^ (8 * (k % 8)) < 2 ^ (64 - 8 * (k % 8)) := by
    rw [Nat.div_lt_iff_lt_mul (Nat.two_pow_pos _), ← Nat.pow_add, show 64 - 8 * (k % 8) + 8 * (k % 8) = 64 by omega]; exact hw
  rw [Nat.mod_eq_of_lt h2] at e
  rcases Nat.lt_or_ge w (2 ^ (8 * (k % 8))) with h | h
  · exact h
  · have := Nat.div_pos h (Nat.two_pow_pos _); omega
theorem byte_shl (x : U8) {s : Nat} (hs : s ≤ 56) : ((x.setWidth 64 : U64) <<< s).toNat = 2 ^ s * x.toNat := by
  have hx := x.isLt
  rw [BitVec.toNat_shiftLeft, BitVec.toNat_setWidth, Nat.shiftLeft_eq, Nat.mod_eq_of_lt (a := x.toNat) (by omega), Nat.mul_comm]
  apply Nat.mod_eq_of_lt
  calc 2 ^ s * x.toNat < 2 ^ s * 2 ^ 8 := Nat.mul_lt_mul_of_pos_left hx (Nat.two_pow_pos s)
    _ = 2 ^ (s + 8) := (Nat.pow_add 2 s 8).symm
    _ ≤ 2 ^ 64 := Nat.pow_le_pow_right (by decide) (by omega)
theorem byte_in {v k : Nat} {x : U8} {w : U64} (hk : k < 32) (hv : v < 256 ^ k) (hw : w.toNat = (g64 (words 4 v) (k / 8)).toNat + 2 ^ (8 * (k % 8)) * x.toNat) : (words 4 v).set (k / 8) w = words 4 (v + 256 ^ k * x.toNat) := by
  refine eq_words (by rw [List.length_set, words_len]) ?_
  have hx := x.isLt
  have hs := val_set (words 4 v) (k / 8) w (by rw [words_len]; omega)
  have e1 : (18446744073709551616 : Nat) ^ (k / 8) * 2 ^ (8 * (k % 8)) = 256 ^ k := by
    rw [show (18446744073709551616 : Nat) = 2 ^ 64 from rfl, ← Nat.pow_mul, ← Nat.pow_add, show (256 : Nat) = 2 ^ 8 from rfl, ← Nat.pow_mul]; congr 1; omega
  rw [hw, Nat.mul_add, ← Nat.mul_assoc, e1] at hs
  have hlt : v + 256 ^ k * x.toNat < 18446744073709551616 ^ 4 := by
    have h3 : 256 ^ k * x.toNat ≤ 256 ^ k * 255 := Nat.mul_le_mul_left _ (by omega)
    have h4 : (256 : Nat) ^ (k + 1) ≤ 256 ^ 32 := Nat.pow_le_pow_right (by decide) (by omega)
    rw [Nat.pow_succ] at h4
    have h5 : (256 : Nat) ^ 32 = 18446744073709551616 ^ 4 := by decide
    omega
  have hv4 : val (words 4 v) = v := by rw [val_words]; exact Nat.mod_eq_of_lt (by omega)
  rw [Nat.mod_eq_of_lt hlt]
  rw [hv4] at hs
  omega
theorem byte_add {v k : Nat} {x : U8} (hk : k < 32) (hv : v < 256 ^ k) : (words 4 v).set (k / 8) (g64 (words 4 v) (k / 8) + (x.setWidth 64 : U64) <<< (8 * (k % 8))) = words 4 (v + 256 ^ k * x.toNat) := by
  refine byte_in hk hv ?_
  have h1 := byte_word hk hv x.isLt
  have h2 := byte_shl x (s := 8 * (k % 8)) (by omega)
  rw [BitVec.toNat_add, h2]
  have hx := x.isLt
  apply Nat.mod_eq_of_lt
  have h3 : 2 ^ (8 * (k % 8)) * x.toNat ≤ 2 ^ (8 * (k % 8)) * 255 := Nat.mul_le_mul_left _ (by omega)
  have h4 : (2 : Nat) ^ (8 * (k % 8) + 8) ≤ 2 ^ 64 := Nat.pow_le_pow_right (by decide) (by omega)
  rw [Nat.pow_add] at h4
  omega
theorem byte_or {v k : Nat} {x : U8} (hk : k < 32) (hv : v < 256 ^ k) : (words 4 v).set (k / 8) (g64 (words 4 v) (k / 8) ||| (x.setWidth 64 : U64) <<< (8 * (k % 8))) = words 4 (v + 256 ^ k * x.toNat) := by
  refine byte_in hk hv ?_
  have h1 := byte_word hk hv x.isLt
  have h2 := byte_shl x (s := 8 * (k % 8)) (by omega)
  rw [BitVec.toNat_or, h2, Nat.or_comm, ← Nat.two_pow_add_eq_or_of_lt h1, Nat.add_comm]
theorem byte_out (v : Nat) {k : Nat} (hk : k < 32) : ((g64 (words 4 v) (k / 8)) >>> (8 * (k % 8))).setWidth 8 = (BitVec.ofNat 8 (v / 2 ^ (8 * k)) : U8) := by
  apply BitVec.eq_of_toNat_eq
  have e := val_part (words 4 v) (k / 8) (8 * (k % 8)) 8 (by rw [words_len]; omega) (by omega)
  rw [show 64 * (k / 8) + 8 * (k % 8) = 8 * k by omega, val_words] at e
  rw [BitVec.toNat_setWidth, BitVec.toNat_ushiftRight, Nat.shiftRight_eq_div_pow, BitVec.toNat_ofNat, e]
  have h5 : (18446744073709551616 : Nat) ^ 4 = 2 ^ (8 * k) * (2 ^ 8 * 2 ^ (248 - 8 * k)) := by
    rw [← Nat.pow_add, ← Nat.pow_add, show 8 * k + (8 + (248 - 8 * k)) = 256 by omega]
  rw [h5, Nat.mod_mul_right_div_self, Nat.mod_mul_right_mod]
def LayI (v : Nat) (s : Nat × List U8) : Prop := s.1 ≤ 32 ∧ s.2.length = 32 ∧ ∀ j, j < s.1 → g8 s.2 j = g8 (byts 32 v) j
theorem g8_set_ne {l : List U8} {i j : Nat} {v : U8} (h : i ≠ j) : g8 (l.set i v) j = g8 l j := by
  simp [g8, List.getD_eq_getElem?_getD, List.getElem?_set, h]
theorem g8_set_eq {l : List U8} {i : Nat} {v : U8} (h : i < l.length) : g8 (l.set i v) i = v := by
  simp [g8, List.getD_eq_getElem?_getD, List.getElem?_set, h]
theorem lay_step {v k : Nat} {p : List U8} (hk : k < 32) (h : LayI v (k, p)) : LayI v (k + 1, p.set k (((g64 (words 4 v) (k / 8)) >>> (8 * (k % 8))).setWidth 8)) := by
  obtain ⟨h1, h2, h3⟩ := h
  dsimp only at h1 h2 h3
  refine ⟨by dsimp only; omega, by simp [h2], fun j hj => ?_⟩
  dsimp only at hj ⊢
  by_cases hjk : j = k
  · subst hjk
    rw [g8_set_eq (by omega), g8_byts 32 _ j hk, byte_out v hk]
  · rw [g8_set_ne (Ne.symm hjk)]; exact h3 j (by omega)
theorem lay_end {v : Nat} {p : List U8} (h : LayI v (32, p)) : p = byts 32 v := by
  obtain ⟨h1, h2, h3⟩ := h
  exact list8_ext (by rw [byts_len]; exact h2) fun j hj => h3 j (by dsimp only at h2 ⊢; omega)
/-- Bytes so far. -/
def WhoI (bs : List U8) (s : Nat × List U64) : Prop := s.1 ≤ 32 ∧ s.2 = words 4 (bval (bs.take s.1))
theorem who_lt {bs : List U8} {k : Nat} : bval (bs.take k) < 256 ^ k := Nat.lt_of_lt_of_le (bval_lt _) (Nat.pow_le_pow_right (by decide) (by rw [List.length_take]; omega))
theorem who_or {bs : List U8} {p : List U64} {k : Nat} (hb : bs.length = 32) (hk : k < 32) (h : WhoI bs (k, p)) : WhoI bs (k + 1, p.set (k / 8) (g64 p (k / 8) ||| ((g8 bs k).setWidth 64 : U64) <<< (8 * (k % 8)))) := by
  obtain ⟨h1, h2⟩ := h
  dsimp only at h1 h2
  refine ⟨by dsimp only; omega, ?_⟩
  dsimp only
  rw [h2, byte_or hk who_lt, bval_take_succ bs k (by omega)]
theorem who_add {bs : List U8} {p : List U64} {k : Nat} (hb : bs.length = 32) (hk : k < 32) (h : WhoI bs (k, p)) : WhoI bs (k + 1, p.set (k / 8) (g64 p (k / 8) + ((g8 bs k).setWidth 64 : U64) <<< (8 * (k % 8)))) := by
  obtain ⟨h1, h2⟩ := h
  dsimp only at h1 h2
  refine ⟨by dsimp only; omega, ?_⟩
  dsimp only
  rw [h2, byte_add hk who_lt, bval_take_succ bs k (by omega)]
theorem who_start (bs : List U8) : WhoI bs (0, [0#64, 0#64, 0#64, 0#64]) := ⟨Nat.zero_le _, by dsimp only; rw [List.take_zero]; decide⟩
theorem who_end {bs : List U8} {p : List U64} (hb : bs.length = 32) (h : WhoI bs (32, p)) : p = words 4 (bval bs) := by
  have h2 : p = words 4 (bval (bs.take 32)) := h.2
  rw [h2, List.take_of_length_le (by omega)]

theorem w32_word {v x k : Nat} (hk : k < 8) (hv : v < 4294967296 ^ k) (hx : x < 4294967296) : (g64 (words 4 v) (k / 2)).toNat < 2 ^ (32 * (k % 2)) := by
  have e := val_part (words 4 v) (k / 2) (32 * (k % 2)) (64 - 32 * (k % 2)) (by rw [words_len]; omega) (by omega)
  have hb : val (words 4 v) < 2 ^ (64 * (k / 2) + 32 * (k % 2)) := by
    rw [val_words, show 64 * (k / 2) + 32 * (k % 2) = 32 * k by omega, Nat.pow_mul]
    exact Nat.lt_of_le_of_lt (Nat.mod_le _ _) hv
  rw [Nat.div_eq_of_lt hb, Nat.zero_mod] at e
  have hw := (g64 (words 4 v) (k / 2)).isLt
  generalize (g64 (words 4 v) (k / 2)).toNat = w at *
  have h2 : w / 2 ^ (32 * (k % 2)) < 2 ^ (64 - 32 * (k % 2)) := by
    rw [Nat.div_lt_iff_lt_mul (Nat.two_pow_pos _), ← Nat.pow_add, show 64 - 32 * (k % 2) + 32 * (k % 2) = 64 by omega]; exact hw
  rw [Nat.mod_eq_of_lt h2] at e
  rcases Nat.lt_or_ge w (2 ^ (32 * (k % 2))) with h | h
  · exact h
  · have := Nat.div_pos h (Nat.two_pow_pos _); omega
theorem w32_shl (x : U32) {s : Nat} (hs : s ≤ 32) : ((x.setWidth 64 : U64) <<< s).toNat = 2 ^ s * x.toNat := by
  have hx := x.isLt
  rw [BitVec.toNat_shiftLeft, BitVec.toNat_setWidth, Nat.shiftLeft_eq, Nat.mod_eq_of_lt (a := x.toNat) (by omega), Nat.mul_comm]
  apply Nat.mod_eq_of_lt
  calc 2 ^ s * x.toNat < 2 ^ s * 2 ^ 32 := Nat.mul_lt_mul_of_pos_left hx (Nat.two_pow_pos s)
    _ = 2 ^ (s + 32) := (Nat.pow_add 2 s 32).symm
    _ ≤ 2 ^ 64 := Nat.pow_le_pow_right (by decide) (by omega)
theorem w32_in {v k : Nat} {x : U32} {w : U64} (hk : k < 8) (hv : v < 4294967296 ^ k) (hw : w.toNat = (g64 (words 4 v) (k / 2)).toNat + 2 ^ (32 * (k % 2)) * x.toNat) : (words 4 v).set (k / 2) w = words 4 (v + 4294967296 ^ k * x.toNat) := by
  refine eq_words (by rw [List.length_set, words_len]) ?_
  have hx := x.isLt
  have hs := val_set (words 4 v) (k / 2) w (by rw [words_len]; omega)
  have e1 : (18446744073709551616 : Nat) ^ (k / 2) * 2 ^ (32 * (k % 2)) = 4294967296 ^ k := by
    rw [show (18446744073709551616 : Nat) = 2 ^ 64 from rfl, ← Nat.pow_mul, ← Nat.pow_add, show (4294967296 : Nat) = 2 ^ 32 from rfl, ← Nat.pow_mul]; congr 1; omega
  rw [hw, Nat.mul_add, ← Nat.mul_assoc, e1] at hs
  have hlt : v + 4294967296 ^ k * x.toNat < 18446744073709551616 ^ 4 := by
    have h3 : 4294967296 ^ k * x.toNat ≤ 4294967296 ^ k * 4294967295 := Nat.mul_le_mul_left _ (by omega)
    have h4 : (4294967296 : Nat) ^ (k + 1) ≤ 4294967296 ^ 8 := Nat.pow_le_pow_right (by decide) (by omega)
    rw [Nat.pow_succ] at h4
    have h5 : (4294967296 : Nat) ^ 8 = 18446744073709551616 ^ 4 := by decide
    omega
  have hv4 : val (words 4 v) = v := by rw [val_words]; exact Nat.mod_eq_of_lt (by omega)
  rw [Nat.mod_eq_of_lt hlt]
  rw [hv4] at hs
  omega
theorem w32_add {v k : Nat} {x : U32} (hk : k < 8) (hv : v < 4294967296 ^ k) : (words 4 v).set (k / 2) (g64 (words 4 v) (k / 2) + (x.setWidth 64 : U64) <<< (32 * (k % 2))) = words 4 (v + 4294967296 ^ k * x.toNat) := by
  refine w32_in hk hv ?_
  have h1 := w32_word hk hv x.isLt
  have h2 := w32_shl x (s := 32 * (k % 2)) (by omega)
  rw [BitVec.toNat_add, h2]
  have hx := x.isLt
  apply Nat.mod_eq_of_lt
  have h3 : 2 ^ (32 * (k % 2)) * x.toNat ≤ 2 ^ (32 * (k % 2)) * 4294967295 := Nat.mul_le_mul_left _ (by omega)
  have h4 : (2 : Nat) ^ (32 * (k % 2) + 32) ≤ 2 ^ 64 := Nat.pow_le_pow_right (by decide) (by omega)
  rw [Nat.pow_add] at h4
  omega
theorem w32_or {v k : Nat} {x : U32} (hk : k < 8) (hv : v < 4294967296 ^ k) : (words 4 v).set (k / 2) (g64 (words 4 v) (k / 2) ||| (x.setWidth 64 : U64) <<< (32 * (k % 2))) = words 4 (v + 4294967296 ^ k * x.toNat) := by
  refine w32_in hk hv ?_
  have h1 := w32_word hk hv x.isLt
  have h2 := w32_shl x (s := 32 * (k % 2)) (by omega)
  rw [BitVec.toNat_or, h2, Nat.or_comm, ← Nat.two_pow_add_eq_or_of_lt h1, Nat.add_comm]

/-- The order. -/
def LL : Nat := 7237005577332262213973186563042994240857116359379907606001950938285454250989
theorem LL_pos : 0 < LL := by decide
theorem LL_words : words 4 LL = [6346243789798364141#64, 1503914060200516822#64, 0#64, 1152921504606846976#64] := by decide
theorem LL_lt : LL < 2 ^ 256 := by decide
theorem val4 (v : Nat) : val (words 4 v) = v % 2 ^ 256 := by rw [val_words]
theorem val4L (v : Nat) : val (words 4 (v % LL)) = v % LL := by
  rw [val4]; exact Nat.mod_eq_of_lt (Nat.lt_trans (Nat.mod_lt v LL_pos) LL_lt)
theorem val4b {bs : List U8} (h : bs.length = 32) : val (words 4 (bval bs)) = bval bs := by
  have := bval_lt bs
  rw [h] at this
  rw [val4]
  exact Nat.mod_eq_of_lt (Nat.lt_of_lt_of_le this (by decide))
theorem val_lt4 {xs : List U64} (h : xs.length = 4) : val xs < 2 ^ 256 := by
  have := val_lt xs; rw [h] at this; exact this
theorem xs_words {xs : List U64} (h : xs.length = 4) : words 4 (val xs) = xs := by have := words_val xs; rwa [h] at this
theorem words_inj {u v : Nat} (hu : u < 2 ^ 256) (hv : v < 2 ^ 256) (h : words 4 u = words 4 v) : u = v := by
  have := congrArg val h
  rw [val4, val4, Nat.mod_eq_of_lt hu, Nat.mod_eq_of_lt hv] at this
  exact this
/-- Halves of words. -/
def sp4 : List U64 → List U32
  | [] => []
  | x :: r => x.setWidth 32 :: (x >>> 32).setWidth 32 :: sp4 r
theorem sp4_len : ∀ l, (sp4 l).length = 2 * l.length
  | [] => rfl
  | x :: r => by simp only [sp4, List.length_cons, sp4_len r]; omega
theorem sp4_val : ∀ l, nv32 (sp4 l) = val l
  | [] => rfl
  | x :: r => by
    have h1 : (x.setWidth 32 : U32).toNat = x.toNat % 4294967296 := by rw [BitVec.toNat_setWidth]
    have h2 : ((x >>> 32).setWidth 32 : U32).toNat = x.toNat / 4294967296 := by
      have hx := x.isLt
      rw [BitVec.toNat_setWidth, BitVec.toNat_ushiftRight, Nat.shiftRight_eq_div_pow]
      omega
    simp only [sp4, nv32, val, sp4_val r, h1, h2]
    have := Nat.div_add_mod x.toNat 4294967296
    omega
theorem sp4_app : ∀ l m, sp4 (l ++ m) = sp4 l ++ sp4 m
  | [], m => rfl
  | x :: r, m => by simp only [List.cons_append, sp4, sp4_app r m]
theorem sp4_take {l : List U64} {k : Nat} (h : k < l.length) : sp4 (l.take (k + 1)) = sp4 (l.take k) ++ [(g64 l k).setWidth 32, (g64 l k >>> 32).setWidth 32] := by
  rw [List.take_succ_eq_append_getElem h, sp4_app]
  congr 1
  simp [sp4, g64, h]
/-- Words out of halves, so far. -/
def LefI (r : List U32) (s : Nat × List U64) : Prop := s.1 ≤ r.length ∧ s.2 = words 4 (nv32 (r.take s.1))
theorem lef_start (r : List U32) : LefI r (0, [0#64, 0#64, 0#64, 0#64]) := ⟨Nat.zero_le _, by dsimp only; rw [List.take_zero]; decide⟩
theorem lef_lt (r : List U32) (k : Nat) : nv32 (r.take k) < 4294967296 ^ k := Nat.lt_of_lt_of_le (nv32_lt _) (Nat.pow_le_pow_right (by decide) (by rw [List.length_take]; omega))
theorem lef_or {r : List U32} {p : List U64} {k : Nat} (hr : r.length ≤ 8) (hk : k < r.length) (h : LefI r (k, p)) : LefI r (k + 1, p.set (k / 2) (g64 p (k / 2) ||| ((g32 r k).setWidth 64 : U64) <<< (32 * (k % 2)))) := by
  obtain ⟨h1, h2⟩ := h
  dsimp only at h1 h2
  refine ⟨by dsimp only; omega, ?_⟩
  dsimp only
  rw [h2, w32_or (by omega) (lef_lt r k), nv32_take_succ]
theorem lef_add {r : List U32} {p : List U64} {k : Nat} (hr : r.length ≤ 8) (hk : k < r.length) (h : LefI r (k, p)) : LefI r (k + 1, p.set (k / 2) (g64 p (k / 2) + ((g32 r k).setWidth 64 : U64) <<< (32 * (k % 2)))) := by
  obtain ⟨h1, h2⟩ := h
  dsimp only at h1 h2
  refine ⟨by dsimp only; omega, ?_⟩
  dsimp only
  rw [h2, w32_add (by omega) (lef_lt r k), nv32_take_succ]
theorem lef_end {r : List U32} {p : List U64} {k : Nat} (hk : r.length ≤ k) (h : LefI r (k, p)) : p = words 4 (nv32 r) := by
  have h2 : p = words 4 (nv32 (r.take k)) := h.2
  rw [h2, List.take_of_length_le hk]
/-- Bytes the other way round. -/
theorem nb_snoc (b : List U8) (x : U8) : nb (b ++ [x]) = nb b * 256 + x.toNat := by rw [nb_app, nb_one]; rfl
theorem nb_rev : ∀ b : List U8, nb b.reverse = bval b
  | [] => rfl
  | x :: r => by rw [List.reverse_cons, nb_snoc, nb_rev r]; simp only [bval]; omega
theorem bval_app : ∀ l m : List U8, bval (l ++ m) = bval l + 256 ^ l.length * bval m
  | [], m => by simp [bval]
  | x :: r, m => by
    simp only [List.cons_append, bval, bval_app r m, List.length_cons, Nat.pow_succ]
    rw [Nat.mul_add, Nat.mul_comm (256 ^ r.length) 256, Nat.mul_assoc]; omega
theorem bval_zeros (n : Nat) : bval (List.replicate n 0) = 0 := by
  induction n with
  | zero => rfl
  | succ n ih => rw [List.replicate_succ, bval, ih]; rfl
/-- Bytes changed places, so far. -/
def RevI (b : List U8) (s : Nat × List U8) : Prop := s.1 ≤ b.length / 2 ∧ s.2.length = b.length ∧ ∀ j, j < b.length → g8 s.2 j = if j < s.1 ∨ b.length - 1 - j < s.1 then g8 b (b.length - 1 - j) else g8 b j
theorem rev_start (b : List U8) : RevI b (0, b) := ⟨Nat.zero_le _, rfl, fun j hj => by dsimp only; rw [if_neg (by omega)]⟩
theorem rev_step {b p : List U8} {k : Nat} (hk : k < b.length / 2) (h : RevI b (k, p)) : RevI b (k + 1, (p.set k (g8 p (b.length - 1 - k))).set (b.length - 1 - k) (g8 p k)) := by
  obtain ⟨h1, h2, h3⟩ := h
  dsimp only at h1 h2 h3
  refine ⟨by dsimp only; omega, by dsimp only; rw [List.length_set, List.length_set]; exact h2, fun j hj => ?_⟩
  dsimp only
  by_cases e1 : j = b.length - 1 - k
  · subst e1
    rw [g8_set_eq (by rw [List.length_set]; omega), h3 k (by omega), if_neg (by omega), if_pos (by omega)]
    congr 1; omega
  · rw [g8_set_ne (fun h => e1 h.symm)]
    by_cases e2 : j = k
    · subst e2
      rw [g8_set_eq (by omega), h3 _ (by omega), if_neg (by omega), if_pos (by omega)]
    · rw [g8_set_ne (fun h => e2 h.symm), h3 j hj]
      by_cases e3 : j < k ∨ b.length - 1 - j < k
      · rw [if_pos e3, if_pos (by omega)]
      · rw [if_neg e3, if_neg (by omega)]
theorem rev_end {b p : List U8} {k : Nat} (hk : b.length / 2 ≤ k) (h : RevI b (k, p)) : p = b.reverse := by
  obtain ⟨h1, h2, h3⟩ := h
  dsimp only at h1 h2 h3
  refine list8_ext (by rw [List.length_reverse, h2]) fun j hj => ?_
  have hrev : g8 b.reverse j = g8 b (b.length - 1 - j) := by
    have hj2 : j < b.length := by omega
    simp [g8, List.getD_eq_getElem?_getD, List.getElem?_reverse hj2]
  rw [h3 j (by omega), hrev]
  split
  · rfl
  · congr 1; omega
/-- A secret number's bytes. -/
def clL (b : List U8) : List U8 := (b.set 0 (g8 b 0 &&& 248#8)).set 31 (g8 b 31 &&& 63#8 ||| 64#8)
theorem cl_lo : ∀ x : U8, x / 8#8 * 8#8 = x &&& 248#8 := by
  intro x
  have : ∀ n : Fin 256, (BitVec.ofFin n : U8) / 8#8 * 8#8 = BitVec.ofFin n &&& 248#8 := by decide +kernel
  exact this x.toFin
theorem cl_hi : ∀ x : U8, x % 64#8 + 64#8 = x &&& 63#8 ||| 64#8 := by
  intro x
  have : ∀ n : Fin 256, (BitVec.ofFin n : U8) % 64#8 + 64#8 = BitVec.ofFin n &&& 63#8 ||| 64#8 := by decide +kernel
  exact this x.toFin
end Go.Proofs.Ytkpbjkhgiackpaa.Sc
