/- Numbers shifted down, digit by digit. No program in sight. -/
import Derived.Test.YtkpbjkhgiackpaaNv
namespace Go.Proofs.Ytkpbjkhgiackpaa
open Go Go.RowKit
set_option linter.unusedVariables false
theorem nv16_div (l : List U64) (hd : D16 l) (i : Nat) : nv16 l / 65536 ^ i = nv16 (l.drop i) := by
  rcases Nat.lt_or_ge l.length i with h | h
  · rw [List.drop_eq_nil_of_le (by omega)]
    have h1 := nv16_lt l hd
    have h2 : (65536 : Nat) ^ l.length ≤ 65536 ^ i := Nat.pow_le_pow_right (by decide) (by omega)
    rw [Nat.div_eq_of_lt (by omega)]; rfl
  · have e := nv16_take_drop l i h
    have h1 := nv16_lt (l.take i) (hd.take i)
    rw [List.length_take, Nat.min_eq_left h] at h1
    rw [e, Nat.add_mul_div_left _ _ (Nat.pow_pos (by decide)), Nat.div_eq_of_lt h1, Nat.zero_add]
theorem shr_dig {l : List U64} (hd : D16 l) {i r : Nat} (hr : r < 16) : nv16 l / 2 ^ r / 65536 ^ i % 65536 = ((g64 l i).toNat + (g64 l (i + 1)).toNat * 65536) / 2 ^ r % 65536 := by
  rw [Nat.div_div_eq_div_mul, Nat.mul_comm, ← Nat.div_div_eq_div_mul, nv16_div l hd, nv16_drop l i, nv16_drop l (i + 1)]
  generalize nv16 (l.drop (i + 1 + 1)) = R
  have e : (g64 l i).toNat + 65536 * ((g64 l (i + 1)).toNat + 65536 * R) = ((g64 l i).toNat + (g64 l (i + 1)).toNat * 65536) + 2 ^ r * (65536 * (2 ^ (16 - r) * R)) := by
    have e2 : (2 : Nat) ^ r * (65536 * (2 ^ (16 - r) * R)) = 65536 * (65536 * R) := by
      rw [Nat.mul_left_comm, ← Nat.mul_assoc (2 ^ r), ← Nat.pow_add, show r + (16 - r) = 16 by omega]
    rw [e2]; omega
  rw [e, Nat.add_mul_div_left _ _ (Nat.two_pow_pos r), Nat.add_mul_mod_self_left]
/-- The digits of a shifted number, so far. -/
theorem shr_snoc {l o : List U64} {i r : Nat} {x : U64} (hd : D16 l) (hr : r < 16) (hl : o.length = i) (ho : nv16 o = nv16 l / 2 ^ r % 65536 ^ i) (hx : x.toNat = ((g64 l i).toNat + (g64 l (i + 1)).toNat * 65536) / 2 ^ r % 65536) : nv16 (o ++ [x]) = nv16 l / 2 ^ r % 65536 ^ (i + 1) := by
  rw [nv16_app, nv16_one, hl, ho, hx, ← shr_dig hd hr, Nat.pow_succ, Nat.mod_mul]
theorem shr_all {l : List U64} (hd : D16 l) (r : Nat) : nv16 l / 2 ^ r % 65536 ^ l.length = nv16 l / 2 ^ r :=
  Nat.mod_eq_of_lt (Nat.lt_of_le_of_lt (Nat.div_le_self _ _) (nv16_lt l hd))
theorem shr_drop {l : List U64} (hd : D16 l) (n : Nat) : nv16 (l.drop (n / 16)) / 2 ^ (n % 16) = nv16 l / 2 ^ n := by
  rw [← nv16_div l hd, Nat.div_div_eq_div_mul, show (65536 : Nat) = 2 ^ 16 from rfl, ← Nat.pow_mul, ← Nat.pow_add, Nat.div_add_mod]
end Go.Proofs.Ytkpbjkhgiackpaa
