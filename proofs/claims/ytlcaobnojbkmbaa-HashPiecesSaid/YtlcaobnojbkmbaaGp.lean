/- Blocks one behind the other: plain laws. No program in sight. -/
import Derived.Test.YtlcaobnojbkmbaaG1
namespace Go.Proofs.Ytlcaobnojbkmbaa
open Go Go.RowKit
set_option linter.unusedVariables false
set_option linter.unusedSimpArgs false
section
variable {σ : Type} (f : σ → List U8 → σ) (n : Nat)
def bks : Nat → σ → List U8 → σ
  | 0, s, _ => s
  | k + 1, s, p => bks k (f s (p.take n)) (p.drop n)
theorem bks_add : ∀ (j k : Nat) (s : σ) (p : List U8), bks f n (j + k) s p = bks f n k (bks f n j s p) (p.drop (n * j))
  | 0, k, s, p => by simp [bks]
  | j + 1, k, s, p => by
    rw [show j + 1 + k = (j + k) + 1 by omega]
    simp only [bks]
    rw [bks_add j k, List.drop_drop, show n + n * j = n * (j + 1) by rw [Nat.mul_add, Nat.mul_one, Nat.add_comm]]
theorem bks_app : ∀ (k : Nat) (s : σ) (p q : List U8), n * k ≤ p.length → bks f n k s (p ++ q) = bks f n k s p
  | 0, s, p, q, _ => rfl
  | k + 1, s, p, q, h => by
    rw [Nat.mul_add, Nat.mul_one] at h
    simp only [bks]
    rw [List.take_append_of_le_length (by omega), List.drop_append_of_le_length (by omega), bks_app k _ _ q (by rw [List.length_drop]; omega)]
/-- What bytes that come lead to: the numbers, and what is left. -/
def fdS (v : σ) (p : List U8) : σ := bks f n (p.length / n) v p
def fdR (p : List U8) : List U8 := p.drop (n * (p.length / n))
theorem fdR_len (hn : 0 < n) (p : List U8) : (fdR n p).length < n := by
  unfold fdR
  rw [List.length_drop]
  have h1 := Nat.div_add_mod p.length n
  have h2 := Nat.mod_lt p.length hn
  omega
/-- While there is a whole block. -/
def FdI (T : σ) (TR : List U8) (v : σ) (r : List U8) : Prop := fdS f n v r = T ∧ fdR n r = TR
variable {f n}
theorem FdI.step (hn : 0 < n) {T : σ} {TR : List U8} {v : σ} {r : List U8} (h : FdI f n T TR v r) (hr : n ≤ r.length) : FdI f n T TR (f v (r.take n)) (r.drop n) := by
  obtain ⟨h1, h2⟩ := h
  have hd : r.length / n = (r.drop n).length / n + 1 := by
    rw [List.length_drop, Nat.div_eq r.length n, if_pos ⟨hn, hr⟩]
  unfold fdS at h1
  unfold fdR at h2
  rw [hd] at h1 h2
  refine ⟨h1, ?_⟩
  unfold fdR
  rw [← h2, List.drop_drop, Nat.mul_add, Nat.mul_one, Nat.add_comm]
theorem FdI.done {T : σ} {TR : List U8} {v : σ} {r : List U8} (h : FdI f n T TR v r) (hr : r.length < n) : v = T ∧ r = TR := by
  obtain ⟨h1, h2⟩ := h
  unfold fdS at h1
  unfold fdR at h2
  rw [Nat.div_eq_of_lt hr] at h1 h2
  exact ⟨h1, by simpa using h2⟩
/-- Bytes and more bytes. -/
theorem fd_app (hn : 0 < n) (s : σ) (p q : List U8) : fdS f n (fdS f n s p) (fdR n p ++ q) = fdS f n s (p ++ q) ∧ fdR n (fdR n p ++ q) = fdR n (p ++ q) := by
  have h1 := Nat.div_add_mod p.length n
  have h0 : n * (p.length / n) ≤ p.length := Nat.mul_div_le _ _
  have hlen : (p ++ q).length / n = p.length / n + (fdR n p ++ q).length / n := by
    unfold fdR
    rw [List.length_append, List.length_append, List.length_drop]
    rw [show p.length + q.length = (p.length - n * (p.length / n) + q.length) + n * (p.length / n) by omega, Nat.add_mul_div_left _ _ hn, Nat.add_comm]
  have hdr : (p ++ q).drop (n * (p.length / n)) = fdR n p ++ q := by
    rw [List.drop_append_of_le_length h0]; rfl
  constructor
  · unfold fdS
    rw [hlen, bks_add, hdr, bks_app f n _ _ _ _ h0]
  · have e : fdR n (p ++ q) = (fdR n p ++ q).drop (n * ((fdR n p ++ q).length / n)) := by
      show (p ++ q).drop (n * ((p ++ q).length / n)) = _
      rw [hlen, Nat.mul_add, ← List.drop_drop, hdr]
    rw [e]; rfl
/-- What is behind all blocks so far, then a tail. -/
theorem bks_tail (hn : 0 < n) (s : σ) (p t : List U8) : bks f n ((p ++ t).length / n) s (p ++ t) = bks f n ((fdR n p ++ t).length / n) (fdS f n s p) (fdR n p ++ t) := (fd_app hn s p t).1.symm
theorem fdR_mod (hn : 0 < n) (p : List U8) : (fdR n p).length = p.length % n := by
  unfold fdR
  rw [List.length_drop]
  have h1 := Nat.div_add_mod p.length n
  omega
end
theorem blocks7 : ∀ (k : Nat) (h : H7.V8) (p : List U8), H7.blocksF k h p = bks H7.blockF 64 k h p
  | 0, _, _ => rfl
  | k + 1, h, p => by rw [H7.blocksF, bks, blocks7 k]
theorem blocks8 : ∀ (k : Nat) (h : H8.V8) (p : List U8), H8.blocksF k h p = bks H8.blockF 128 k h p
  | 0, _, _ => rfl
  | k + 1, h, p => by rw [H8.blocksF, bks, blocks8 k]
theorem blocks1 : ∀ (k : Nat) (h : V5) (p : List U8), blocksF k h p = bks blockF 64 k h p
  | 0, _, _ => rfl
  | k + 1, h, p => by rw [blocksF, bks, blocks1 k]
end Go.Proofs.Ytlcaobnojbkmbaa
