/- Numbers shifted up and down, word by word. No program in sight. -/
import Derived.Test.YtkpbjkhgiackpaaNv
namespace Go.Proofs.Ytkpbjkhgiackpaa
open Go Go.RowKit
set_option linter.unusedVariables false
set_option linter.unusedSimpArgs false
theorem nv32_div (l : List U32) (i : Nat) : nv32 l / 4294967296 ^ i = nv32 (l.drop i) := by
  rcases Nat.lt_or_ge l.length i with h | h
  · rw [List.drop_eq_nil_of_le (by omega)]
    have h1 := nv32_lt l
    have h2 : (4294967296 : Nat) ^ l.length ≤ 4294967296 ^ i := Nat.pow_le_pow_right (by decide) (by omega)
    rw [Nat.div_eq_of_lt (by omega)]; rfl
  · have e := nv32_take_drop l i h
    have h1 := nv32_lt (l.take i)
    rw [List.length_take, Nat.min_eq_left h] at h1
    rw [e, Nat.add_mul_div_left _ _ (Nat.pow_pos (by decide)), Nat.div_eq_of_lt h1, Nat.zero_add]
theorem shr_dig32 (l : List U32) {i r : Nat} (hr : r < 32) : nv32 l / 2 ^ r / 4294967296 ^ i % 4294967296 = ((g32 l i).toNat + (g32 l (i + 1)).toNat * 4294967296) / 2 ^ r % 4294967296 := by
  rw [Nat.div_div_eq_div_mul, Nat.mul_comm, ← Nat.div_div_eq_div_mul, nv32_div l, nv32_drop l i, nv32_drop l (i + 1)]
  generalize nv32 (l.drop (i + 1 + 1)) = R
  have e : (g32 l i).toNat + 4294967296 * ((g32 l (i + 1)).toNat + 4294967296 * R) = ((g32 l i).toNat + (g32 l (i + 1)).toNat * 4294967296) + 2 ^ r * (4294967296 * (2 ^ (32 - r) * R)) := by
    have e2 : (2 : Nat) ^ r * (4294967296 * (2 ^ (32 - r) * R)) = 4294967296 * (4294967296 * R) := by
      rw [Nat.mul_left_comm, ← Nat.mul_assoc (2 ^ r), ← Nat.pow_add, show r + (32 - r) = 32 by omega]
    rw [e2]; omega
  rw [e, Nat.add_mul_div_left _ _ (Nat.two_pow_pos r), Nat.add_mul_mod_self_left]
theorem shr_all32 (l : List U32) (r : Nat) : nv32 l / 2 ^ r % 4294967296 ^ l.length = nv32 l / 2 ^ r :=
  Nat.mod_eq_of_lt (Nat.lt_of_le_of_lt (Nat.div_le_self _ _) (nv32_lt l))
theorem shr_drop32 (l : List U32) (n : Nat) : nv32 (l.drop (n / 32)) / 2 ^ (n % 32) = nv32 l / 2 ^ n := by
  rw [← nv32_div l, Nat.div_div_eq_div_mul, show (4294967296 : Nat) = 2 ^ 32 from rfl, ← Nat.pow_mul, ← Nat.pow_add, Nat.div_add_mod]
/-- Words shifted down so far. -/
def ShrI (t : List U32) (r : Nat) (s : Nat × List U32) : Prop := s.1 ≤ t.length ∧ s.2.length = t.length ∧ nv32 (s.2.take s.1) = nv32 t / 2 ^ r % 4294967296 ^ s.1
theorem shri_start (t : List U32) (r : Nat) : ShrI t r (0, List.replicate t.length 0) := by
  refine ⟨Nat.zero_le _, by simp, ?_⟩
  simp [nv32, Nat.mod_one]
theorem shri_step {t p : List U32} {r i : Nat} {x : U32} (hr : r < 32) (hi : i < t.length) (h : ShrI t r (i, p)) (hx : x.toNat = ((g32 t i).toNat + (g32 t (i + 1)).toNat * 4294967296) / 2 ^ r % 4294967296) : ShrI t r (i + 1, p.set i x) := by
  obtain ⟨h1, h2, h3⟩ := h
  dsimp only at h1 h2 h3
  refine ⟨by dsimp only; omega, by simp [h2], ?_⟩
  dsimp only
  rw [nv32_take_succ, List.take_set_of_le (Nat.le_refl _), g32_set_eq32 (by omega), h3, hx, ← shr_dig32 t hr, Nat.pow_succ, Nat.mod_mul]
theorem shri_end {t p : List U32} {r : Nat} (h : ShrI t r (t.length, p)) : nv32 p = nv32 t / 2 ^ r := by
  obtain ⟨h1, h2, h3⟩ := h
  dsimp only at h1 h2 h3
  rw [List.take_of_length_le (by omega), shr_all32] at h3
  exact h3
/-- Words shifted up so far. -/
def ShlI (a : List U32) (b r N : Nat) (s : Nat × List U32) : Prop := s.1 ≤ a.length ∧ s.2.length = N ∧ (∀ j, s.1 + b < j → g32 s.2 j = 0) ∧ (g32 s.2 (s.1 + b)).toNat < 2 ^ r ∧ nv32 s.2 = 4294967296 ^ b * (2 ^ r * nv32 (a.take s.1))
theorem shli_start (a : List U32) (b r N : Nat) : ShlI a b r N (0, List.replicate N 0) := by
  have hz : ∀ j, g32 (List.replicate N 0) j = 0 := fun j => by
    by_cases h : j < N <;> simp [g32, List.getD_eq_getElem?_getD, List.getElem?_replicate, h]
  refine ⟨Nat.zero_le _, by simp, fun j _ => hz j, ?_, ?_⟩
  · dsimp only; rw [hz]; exact Nat.two_pow_pos r
  · dsimp only; rw [nv32_zeros]; simp [nv32]
theorem shli_step {a p : List U32} {b r N i : Nat} {x y : U32} (hr : r < 32) (hi : i < a.length) (hN : N = a.length + b + 1) (h : ShlI a b r N (i, p))
    (hx : x.toNat = ((g32 a i).toNat * 2 ^ r) % 4294967296) (hy : y.toNat = ((g32 a i).toNat * 2 ^ r) / 4294967296) : ShlI a b r N (i + 1, (p.set (i + b) (g32 p (i + b) ||| x)).set (i + b + 1) y) := by
  obtain ⟨h1, h2, h3, h4, h5⟩ := h
  dsimp only at h1 h2 h3 h4 h5
  have hor : (g32 p (i + b) ||| x).toNat = (g32 p (i + b)).toNat + x.toNat := by
    rw [BitVec.toNat_or, hx]
    have e1 : (g32 a i).toNat * 2 ^ r % 4294967296 = 2 ^ r * ((g32 a i).toNat % 2 ^ (32 - r)) := by
      have e2 : (4294967296 : Nat) = 2 ^ r * 2 ^ (32 - r) := by rw [← Nat.pow_add, show r + (32 - r) = 32 by omega]
      rw [e2, Nat.mul_comm _ (2 ^ r), Nat.mul_mod_mul_left]
    rw [e1, Nat.or_comm, ← Nat.two_pow_add_eq_or_of_lt h4, Nat.add_comm]
  have s1 := nv32_set p (i + b) (g32 p (i + b) ||| x) (by omega)
  have s2 := nv32_set (p.set (i + b) (g32 p (i + b) ||| x)) (i + b + 1) y (by rw [List.length_set]; omega)
  rw [g32_set_ne32 (by omega), h3 (i + b + 1) (by omega)] at s2
  have z0 : (0 : U32).toNat = 0 := rfl
  rw [z0, Nat.mul_zero, Nat.add_zero] at s2
  refine ⟨by dsimp only; omega, by simp [h2], fun j hj => ?_, ?_, ?_⟩
  · dsimp only at hj ⊢
    rw [g32_set_ne32 (by omega), g32_set_ne32 (by omega)]; exact h3 j (by omega)
  · dsimp only
    rw [show i + 1 + b = i + b + 1 by omega, g32_set_eq32 (by rw [List.length_set]; omega), hy, Nat.div_lt_iff_lt_mul (by decide)]
    rw [Nat.mul_comm]
    exact Nat.mul_lt_mul_of_pos_left (g32 a i).isLt (Nat.two_pow_pos r)
  · dsimp only
    rw [hor, Nat.mul_add] at s1
    have hs : x.toNat + 4294967296 * y.toNat = (g32 a i).toNat * 2 ^ r := by rw [hx, hy]; exact Nat.mod_add_div _ _
    rw [nv32_take_succ, Nat.mul_add (2 ^ r), Nat.mul_add (4294967296 ^ b)]
    have e3 : 4294967296 ^ b * (2 ^ r * (4294967296 ^ i * (g32 a i).toNat)) = 4294967296 ^ (i + b) * (x.toNat + 4294967296 * y.toNat) := by
      rw [hs, Nat.pow_add, Nat.mul_left_comm (2 ^ r), Nat.mul_left_comm (4294967296 ^ b), Nat.mul_comm (2 ^ r), Nat.mul_assoc]
    rw [e3, Nat.mul_add, ← h5, s2]
    rw [Nat.pow_succ, Nat.mul_assoc]
    omega
theorem shli_end {a p : List U32} {n N : Nat} (h : ShlI a (n / 32) (n % 32) N (a.length, p)) : nv32 p = nv32 a * 2 ^ n := by
  obtain ⟨h1, h2, h3, h4, h5⟩ := h
  dsimp only at h5
  rw [h5, List.take_of_length_le (Nat.le_refl _), ← Nat.mul_assoc, show (4294967296 : Nat) = 2 ^ 32 from rfl, ← Nat.pow_mul, ← Nat.pow_add, Nat.div_add_mod, Nat.mul_comm]
theorem both_up (w : U32) {r : Nat} (hr : r < 32) : ((w.setWidth 64 : U64) <<< r).toNat = w.toNat * 2 ^ r := by
  have hb : (2 : Nat) ^ r ≤ 2 ^ 31 := Nat.pow_le_pow_right (by decide) (by omega)
  have hm := Nat.mul_le_mul_left w.toNat hb
  have hw := w.isLt
  rw [BitVec.toNat_shiftLeft, BitVec.toNat_setWidth, Nat.mod_eq_of_lt (a := w.toNat) (by omega), Nat.shiftLeft_eq, Nat.mod_eq_of_lt (by omega)]
theorem up_lo (w : U32) {r : Nat} (hr : r < 32) : (((w.setWidth 64 : U64) <<< r).setWidth 32 : U32).toNat = w.toNat * 2 ^ r % 4294967296 := by
  rw [BitVec.toNat_setWidth, both_up w hr]
theorem up_hi (w : U32) {r : Nat} (hr : r < 32) : (((w.setWidth 64 : U64) <<< r >>> 32).setWidth 32 : U32).toNat = w.toNat * 2 ^ r / 4294967296 := by
  have h1 := ((w.setWidth 64 : U64) <<< r).isLt
  rw [both_up w hr] at h1
  rw [BitVec.toNat_setWidth, BitVec.toNat_ushiftRight, both_up w hr, Nat.shiftRight_eq_div_pow, Nat.mod_eq_of_lt (by omega)]
end Go.Proofs.Ytkpbjkhgiackpaa
