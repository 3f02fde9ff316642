/- Division digit by digit. No program in sight. -/
import Derived.Test.YtkpbjkhgiackpaaNx
namespace Go.Proofs.Ytkpbjkhgiackpaa
open Go Go.RowKit
set_option linter.unusedVariables false
set_option linter.unusedSimpArgs false
/-- The digits of the quotient so far, and what is left. -/
def NyI (x y : List U64) (s : Nat × List U64 × List U64) : Prop := s.1 ≤ x.length ∧ s.2.1.length = x.length ∧ D16 s.2.1 ∧ Can16 s.2.2 ∧ nv16 s.2.2 < nv16 y ∧ (∀ j, j < s.1 → g64 s.2.1 j = 0) ∧ nv16 (x.drop s.1) = nv16 y * nv16 (s.2.1.drop s.1) + nv16 s.2.2
theorem nyi_start {x y : List U64} (hp : 0 < nv16 y) : NyI x y (x.length, List.replicate x.length 0, []) := by
  refine ⟨Nat.le_refl _, by simp, D16.zeros _, trivial, hp, fun j hj => ?_, ?_⟩
  · dsimp only at hj ⊢; simp [g64, hj]
  · dsimp only
    rw [List.drop_length, List.drop_eq_nil_of_le (by simp)]
    simp [nv16]
/-- One digit more: what is left goes up by one digit; then the quotient's digit is taken away. -/
theorem nyi_step {x y q R R' : List U64} {i : Nat} {d : U64} (hp : 0 < nv16 y) (hi : i < x.length) (h : NyI x y (i + 1, q, R)) (hd : d.toNat = (65536 * nv16 R + (g64 x i).toNat) / nv16 y) (hR : Can16 R') (hv : nv16 R' = (65536 * nv16 R + (g64 x i).toNat) % nv16 y) (hx : D16 x) : NyI x y (i, q.set i d, R') := by
  obtain ⟨h1, h2, h3, h4, h5, h6, h7⟩ := h
  dsimp only at h1 h2 h3 h4 h5 h6 h7
  have hg := hx.get i
  have hdl : d.toNat < 65536 := by
    rw [hd]
    refine (Nat.div_lt_iff_lt_mul hp).2 ?_
    have : (nv16 R + 1) * 65536 ≤ nv16 y * 65536 := Nat.mul_le_mul_right _ h5
    rw [Nat.mul_comm 65536 (nv16 y)]
    omega
  refine ⟨by dsimp only; omega, by simp [h2], h3.set _ hdl, hR, by rw [hv]; exact Nat.mod_lt _ hp, fun j hj => ?_, ?_⟩
  · dsimp only at hj ⊢
    have : g64 (q.set i d) j = g64 q j := by simp [g64, List.getD_eq_getElem?_getD, List.getElem?_set, show i ≠ j by omega]
    rw [this]; exact h6 j (by omega)
  · dsimp only
    have e1 : g64 (q.set i d) i = d := by simp [g64, show i < q.length by omega]
    rw [nv16_drop x i, nv16_drop (q.set i d) i, List.drop_set_of_lt (by omega), e1, h7, hd, hv]
    have hm := Nat.div_add_mod (65536 * nv16 R + (g64 x i).toNat) (nv16 y)
    rw [Nat.mul_add, Nat.mul_add, Nat.mul_left_comm]
    generalize nv16 y * ((65536 * nv16 R + (g64 x i).toNat) / nv16 y) = A at *
    generalize (65536 * nv16 R + (g64 x i).toNat) % nv16 y = M at *
    omega
theorem nyi_end {x y q R : List U64} (hp : 0 < nv16 y) (h : NyI x y (0, q, R)) : nv16 q = nv16 x / nv16 y ∧ nv16 R = nv16 x % nv16 y := by
  obtain ⟨h1, h2, h3, h4, h5, h6, h7⟩ := h
  dsimp only at h5 h7
  rw [List.drop_zero, List.drop_zero] at h7
  rw [h7]
  exact ⟨by rw [Nat.mul_add_div hp, Nat.div_eq_of_lt h5, Nat.add_zero], by rw [Nat.mul_add_mod, Nat.mod_eq_of_lt h5]⟩
end Go.Proofs.Ytkpbjkhgiackpaa
