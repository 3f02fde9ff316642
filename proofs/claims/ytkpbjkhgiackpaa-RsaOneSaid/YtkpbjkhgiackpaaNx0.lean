/- The next digit of a quotient. No program in sight. -/
import Derived.Test.YtkpbjkhgiackpaaN3r
import Derived.Test.YtkpbjkhgiackpaaNs
namespace Go.Proofs.Ytkpbjkhgiackpaa
open Go Go.RowKit
set_option linter.unusedVariables false
set_option linter.unusedSimpArgs false
theorem nx_le {V W P : Nat} (hP : 0 < P) (hD : 0 < V / P) : W / V ≤ W / P / (V / P) := by
  have hVp : 0 < V := by
    rcases Nat.eq_zero_or_pos V with h | h
    · rw [h, Nat.zero_div] at hD; exact absurd hD (by decide)
    · exact h
  have w2 : W < (W / P + 1) * P := (Nat.div_lt_iff_lt_mul hP).1 (Nat.lt_succ_self _)
  have v1 : V / P * P ≤ V := Nat.div_mul_le_self V P
  have x1 : W / P < (W / P / (V / P) + 1) * (V / P) := (Nat.div_lt_iff_lt_mul hD).1 (Nat.lt_succ_self _)
  have e1 : (W / P + 1) * P ≤ (W / P / (V / P) + 1) * (V / P) * P := Nat.mul_le_mul_right _ x1
  have e2 : (W / P / (V / P) + 1) * (V / P) * P ≤ (W / P / (V / P) + 1) * V := by rw [Nat.mul_assoc]; exact Nat.mul_le_mul_left _ v1
  exact Nat.lt_succ_iff.1 ((Nat.div_lt_iff_lt_mul hVp).2 (Nat.lt_of_lt_of_le w2 (Nat.le_trans e1 e2)))
theorem nx_top {r y : List U64} (hr : D16 r) (hy : D16 y) (hlt : nv16 r < 65536 * nv16 y) : nv16 (r.drop (y.length + 1)) = 0 := by
  have h1 := nv16_lt y hy
  rw [← nv16_div r hr, Nat.div_eq_of_lt]
  rw [Nat.pow_succ, Nat.mul_comm]
  have : 65536 * nv16 y ≤ 65536 * 65536 ^ y.length := Nat.mul_le_mul_left _ (Nat.le_of_lt h1)
  omega
theorem nx_T1 {r y : List U64} (hr : D16 r) (hy : D16 y) (hn : y.length = 1) (hlt : nv16 r < 65536 * nv16 y) : (g64 r 1).toNat * 65536 + (g64 r 0).toNat = nv16 r ∧ (g64 y 0).toNat = nv16 y := by
  have h0 := nx_top hr hy hlt
  have e1 := nv16_drop r 0
  have e2 := nv16_drop r 1
  have e3 := nv16_drop y 0
  rw [hn] at h0
  rw [show List.drop (0 + 1) y = [] from List.drop_eq_nil_of_le (by omega)] at e3
  rw [List.drop_zero] at e1 e3
  have z : nv16 [] = 0 := rfl
  have h2 : nv16 (r.drop (1 + 1)) = 0 := h0
  have h3 : nv16 (r.drop (0 + 1)) = nv16 (r.drop 1) := rfl
  omega
theorem nx_T2 {r y : List U64} (hr : D16 r) (hy : D16 y) (hn : 2 ≤ y.length) (hlt : nv16 r < 65536 * nv16 y) :
    ((g64 r y.length).toNat * 65536 + (g64 r (y.length - 1)).toNat) * 65536 + (g64 r (y.length - 2)).toNat = nv16 r / 65536 ^ (y.length - 2) ∧ (g64 y (y.length - 1)).toNat * 65536 + (g64 y (y.length - 2)).toNat = nv16 y / 65536 ^ (y.length - 2) := by
  have h0 := nx_top hr hy hlt
  constructor
  · rw [nv16_div r hr, nv16_drop r (y.length - 2), nv16_drop r (y.length - 2 + 1), nv16_drop r (y.length - 2 + 1 + 1), show y.length - 2 + 1 + 1 + 1 = y.length + 1 by omega, h0, show y.length - 2 + 1 + 1 = y.length by omega, show y.length - 2 + 1 = y.length - 1 by omega]
    omega
  · rw [nv16_div y hy, nv16_drop y (y.length - 2), nv16_drop y (y.length - 2 + 1), show y.length - 2 + 1 + 1 = y.length by omega, List.drop_length, show y.length - 2 + 1 = y.length - 1 by omega]
    have z : nv16 [] = 0 := rfl
    rw [z]; omega
end Go.Proofs.Ytkpbjkhgiackpaa
