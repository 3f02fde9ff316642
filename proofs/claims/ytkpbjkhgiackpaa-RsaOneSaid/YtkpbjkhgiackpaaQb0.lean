/- How many bits a number has: the table. No program in sight. -/
import Derived.Test.YtkpbjkhgiackpaaEng1
namespace Go.Proofs.Ytkpbjkhgiackpaa
open Go Go.RowKit
set_option linter.unusedVariables false
set_option linter.unusedSimpArgs false

def blN (k : Nat) : Nat := if k = 0 then 0 else k.log2 + 1
def D0 : ByteArray := ⟨#[0, 1, 2, 2, 3, 3, 3, 3, 4, 4, 4, 4, 4, 4, 4, 4, 5, 5, 5, 5, 5, 5, 5, 5, 5, 5, 5, 5, 5, 5, 5, 5, 6, 6, 6, 6, 6, 6, 6, 6, 6, 6, 6, 6, 6, 6, 6, 6, 6, 6, 6, 6, 6, 6, 6, 6, 6, 6, 6, 6, 6, 6, 6, 6, 7, 7, 7, 7, 7, 7, 7, 7, 7, 7, 7, 7, 7, 7, 7, 7, 7, 7, 7, 7, 7, 7, 7, 7, 7, 7, 7, 7, 7, 7, 7, 7, 7, 7, 7, 7, 7, 7, 7, 7, 7, 7, 7, 7, 7, 7, 7, 7, 7, 7, 7, 7, 7, 7, 7, 7, 7, 7, 7, 7, 7, 7, 7, 7, 8, 8, 8, 8, 8, 8, 8, 8, 8, 8, 8, 8, 8, 8, 8, 8, 8, 8, 8, 8, 8, 8, 8, 8, 8, 8, 8, 8, 8, 8, 8, 8, 8, 8, 8, 8, 8, 8, 8, 8, 8, 8, 8, 8, 8, 8, 8, 8, 8, 8, 8, 8, 8, 8, 8, 8, 8, 8, 8, 8, 8, 8, 8, 8, 8, 8, 8, 8, 8, 8, 8, 8, 8, 8, 8, 8, 8, 8, 8, 8, 8, 8, 8, 8, 8, 8, 8, 8, 8, 8, 8, 8, 8, 8, 8, 8, 8, 8, 8, 8, 8, 8, 8, 8, 8, 8, 8, 8, 8, 8, 8, 8, 8, 8, 8, 8, 8, 8, 8, 8, 8, 8, 8, 8, 8, 8, 8, 8]⟩
theorem D0_size : D0.size = 256 := by decide +kernel
theorem D0_get : ∀ k, (h : k < 256) → (D0[k]'(by rw [D0_size]; exact h)).toNat = blN k := by decide +kernel
theorem blN_shift {k s : Nat} (h : 2 ^ s ≤ k) : blN k = s + blN (k / 2 ^ s) := by
  have hk : k ≠ 0 := by have := Nat.two_pow_pos s; omega
  have hd : k / 2 ^ s ≠ 0 := by have := Nat.div_pos h (Nat.two_pow_pos s); omega
  unfold blN
  rw [if_neg hk, if_neg hd]
  have e : k.log2 = s + (k / 2 ^ s).log2 := by
    rw [Nat.log2_eq_iff hk]
    obtain ⟨h1, h2⟩ := (Nat.log2_eq_iff hd).1 rfl
    generalize (k / 2 ^ s).log2 = t at *
    refine ⟨?_, ?_⟩
    · rw [Nat.pow_add, Nat.mul_comm]
      exact Nat.mul_le_of_le_div _ _ _ h1
    · rw [Nat.add_assoc, Nat.pow_add, Nat.mul_comm]
      exact (Nat.div_lt_iff_lt_mul (Nat.two_pow_pos s)).1 h2
  omega
theorem blN_le {k s : Nat} (h : k < 2 ^ s) : blN k ≤ s := by
  unfold blN
  split
  · omega
  · rename_i hk
    have := (Nat.log2_lt hk).2 h
    omega
end Go.Proofs.Ytkpbjkhgiackpaa
