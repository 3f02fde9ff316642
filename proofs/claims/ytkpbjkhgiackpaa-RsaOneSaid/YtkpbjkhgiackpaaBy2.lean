/- Bytes, there and back. No program in sight. -/
import Derived.Test.YtkpbjkhgiackpaaBy1
namespace Go.Proofs.Ytkpbjkhgiackpaa
open Go Go.RowKit
set_option linter.unusedVariables false
set_option linter.unusedSimpArgs false
theorem layL_succ (v n : Nat) : layL v (n + 1) = BitVec.ofNat 8 (v / 256 ^ n) :: layL v n := by
  unfold layL
  rw [List.range_succ_eq_map, List.map_cons, List.map_map]
  refine List.cons_eq_cons.2 ⟨by rw [Nat.add_sub_cancel, Nat.sub_zero], List.map_congr_left fun j _ => ?_⟩
  simp only [Function.comp]
  rw [show n + 1 - 1 - j.succ = n - 1 - j by omega]
theorem nb_layL (v : Nat) : ∀ n, nb (layL v n) = v % 256 ^ n
  | 0 => by simp [layL, nb, Nat.mod_one]
  | n + 1 => by
    have e : v % (256 ^ n * 256) = v % 256 ^ n + 256 ^ n * (v / 256 ^ n % 256) := Nat.mod_mul
    rw [layL_succ, nb, nb_layL v n, layL_len, BitVec.toNat_ofNat, show (256 : Nat) ^ (n + 1) = 256 ^ n * 256 from rfl, e, Nat.mul_comm (256 ^ n)]
    show v / 256 ^ n % 256 * 256 ^ n + v % 256 ^ n = _
    omega
theorem layL_nb (b : List U8) : layL (nb b) b.length = b := by
  refine nb_ext (layL_len _ _) fun j hj => ?_
  rw [layL_len] at hj
  rw [g8_layL hj]
  have e1 : nb b = nb (b.take (j + 1)) * 256 ^ (b.length - 1 - j) + nb (b.drop (j + 1)) := by
    conv => lhs; rw [← List.take_append_drop (j + 1) b, nb_app, List.length_drop]
    rw [show b.length - (j + 1) = b.length - 1 - j by omega]
  have h1 := nb_lt (b.drop (j + 1))
  rw [List.length_drop, show b.length - (j + 1) = b.length - 1 - j by omega] at h1
  have e2 : nb b / 256 ^ (b.length - 1 - j) = nb (b.take (j + 1)) := by
    rw [e1, Nat.mul_comm, Nat.mul_add_div (Nat.pow_pos (by decide)), Nat.div_eq_of_lt h1, Nat.add_zero]
  rw [e2, nb_take_succ b j hj]
  refine BitVec.eq_of_toNat_eq ?_
  have hx := (g8 b j).isLt
  rw [BitVec.toNat_ofNat]
  omega
theorem lg_nb {b : List U8} {e : List U32} (hv : nv32 e = nb b) (hb : b.length = 0 ∨ g8 b 0 ≠ 0) : lgN e = b.length := by
  unfold lgN
  rw [hv]
  rcases Nat.eq_zero_or_pos b.length with h0 | hp
  · rw [h0, List.eq_nil_of_length_eq_zero h0]; rfl
  · have hg : g8 b 0 ≠ 0 := hb.resolve_left (by omega)
    have hg2 : 0 < (g8 b 0).toNat := by
      rcases Nat.eq_zero_or_pos (g8 b 0).toNat with h | h
      · exact absurd (BitVec.eq_of_toNat_eq h) hg
      · exact h
    have e1 := nb_drop b 0 hp
    rw [List.drop_zero] at e1
    have hlt := nb_lt b
    have hge : 256 ^ (b.length - 1) ≤ nb b := by
      have h1 : 1 * 256 ^ (b.length - 1) ≤ (g8 b 0).toNat * 256 ^ (b.length - 1) := Nat.mul_le_mul_right _ hg2
      rw [Nat.one_mul] at h1
      rw [e1, Nat.sub_zero]
      exact Nat.le_trans h1 (Nat.le_add_right _ _)
    rw [show (256 : Nat) = 2 ^ 8 from rfl, ← Nat.pow_mul] at hlt hge
    have h1 := blN_le hlt
    have h2 := blN_shift hge
    have h3 : 0 < blN (nb b / 2 ^ (8 * (b.length - 1))) := by
      have hne : nb b / 2 ^ (8 * (b.length - 1)) ≠ 0 := by
        have := Nat.div_pos hge (Nat.two_pow_pos _); omega
      unfold blN
      first | (rw [if_neg hne]; omega) | (split <;> omega)
    omega
theorem nb_fill {b : List U8} {e : List U32} (hv : nv32 e = nb b) {m : Nat} (hm : b.length ≤ m) : nb (layL (nv32 e) m) = nv32 e := by
  rw [nb_layL, Nat.mod_eq_of_lt]
  rw [hv]
  exact Nat.lt_of_lt_of_le (nb_lt b) (Nat.pow_le_pow_right (by decide) hm)
end Go.Proofs.Ytkpbjkhgiackpaa
