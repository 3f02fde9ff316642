/- The plain law of SHA-1: the program's way and the document's give the same numbers. -/
import Derived.Test.YtdddalcjcgeocaaSha1G
namespace Go.Proofs.Ytdddalcjcgeocaa
theorem g32_set (xs : List U32) (i j : Nat) (x : U32) (hi : i < xs.length) : g32 (xs.set i x) j = if i = j then x else g32 xs j := by
  unfold g32
  rw [List.getD_eq_getElem?_getD, List.getD_eq_getElem?_getD, List.getElem?_set]
  by_cases h : i = j
  · subst h; simp [hi]
  · simp [h]
theorem g32_snoc (xs : List U32) (j : Nat) (x : U32) : g32 (xs ++ [x]) j = if j < xs.length then g32 xs j else if j = xs.length then x else 0 := by
  unfold g32
  rw [List.getD_eq_getElem?_getD, List.getD_eq_getElem?_getD]
  by_cases h : j < xs.length
  · rw [if_pos h, List.getElem?_append_left h]
  · rw [if_neg h, List.getElem?_append_right (by omega)]
    by_cases h2 : j = xs.length
    · subst h2; simp
    · rw [if_neg h2]
      rw [List.getElem?_eq_none (by simp; omega)]; rfl
theorem g32_z (n i : Nat) : g32 (z32 n) i = 0 := by
  unfold g32 z32
  rw [List.getD_eq_getElem?_getD, List.getElem?_replicate]
  split <;> rfl
theorem list32_ext {xs ys : List U32} (hl : xs.length = ys.length) (h : ∀ i, i < xs.length → g32 xs i = g32 ys i) : xs = ys := by
  apply List.ext_getElem hl
  intro i h1 h2
  have := h i h1
  simpa [g32, h1, h2] using this
/-- A word, so many of its four bytes taken. -/
def accW (bs : List U8) (i : Nat) : Nat → U32
  | 0 => 0
  | m + 1 => accW bs i m <<< 8 ||| (g8 bs (4 * i + m)).setWidth 32
theorem accW_four (bs : List U8) (i : Nat) : accW bs i 4 = be32 bs i := by
  simp only [accW, be32, Nat.add_zero, BitVec.shiftLeft_or_distrib, ← BitVec.shiftLeft_add]
  simp only [Nat.reduceAdd]
  rw [show (0 : U32) <<< 32 = 0#32 from by decide, BitVec.zero_or]
theorem sp1_get (bs : List U8) (k i : Nat) (hk : k ≤ 64) (_hi : i < 80) : g32 (sp1 bs k) i = accW bs i (min 4 (k - 4 * i)) := by
  induction k with
  | zero => rw [Nat.zero_sub, Nat.min_zero]; exact g32_z 80 i
  | succ k ih =>
    rw [sp1, g32_set _ _ _ _ (by rw [sp1_length]; omega)]
    by_cases h : k / 4 = i
    · rw [if_pos h, h, ih (by omega)]
      have e1 : min 4 (k - 4 * i) = k - 4 * i := by omega
      have e2 : min 4 (k + 1 - 4 * i) = k - 4 * i + 1 := by omega
      rw [e1, e2, accW, show 4 * i + (k - 4 * i) = k from by omega]
    · rw [if_neg h, ih (by omega)]
      congr 1
      omega
theorem wR_get_low (bs : List U8) (n i : Nat) (hn : n ≤ 16) (hi : i < n) : g32 (wR bs n) i = be32 bs i := by
  induction n with
  | zero => omega
  | succ n ih =>
    rw [wR_low bs n (by omega), g32_snoc, wR_length]
    by_cases h : i < n
    · rw [if_pos h]; exact ih (by omega) h
    · rw [if_neg h, if_pos (by omega)]
      congr 1; omega
theorem sp2_get (bs : List U8) (k i : Nat) (hk : k ≤ 64) (hi : i < k + 16) : g32 (sp2 bs k) i = g32 (wR bs (k + 16)) i := by
  induction k generalizing i with
  | zero =>
    rw [wR_get_low bs _ i (by omega) hi]
    show g32 (sp1 bs 64) i = _
    rw [sp1_get bs 64 i (by omega) (by omega), show min 4 (64 - 4 * i) = 4 from by omega, accW_four]
  | succ k ih =>
    rw [sp2, g32_set _ _ _ _ (by rw [sp2_length]; omega), show k + 1 + 16 = k + 16 + 1 from by omega, wR_high, g32_snoc, wR_length]
    by_cases h : k + 16 = i
    · rw [if_pos h, if_neg (by omega), if_pos h.symm]
      unfold wNext
      rw [ih _ (by omega) (by omega), ih _ (by omega) (by omega), ih _ (by omega) (by omega), ih _ (by omega) (by omega)]
    · rw [if_neg h, if_pos (by omega)]
      exact ih i (by omega) (by omega)
theorem spread_eq (bs : List U8) : spreadF bs = wRall bs := by
  apply list32_ext (by rw [spreadF_length, wRall_length])
  intro i hi
  rw [spreadF_length] at hi
  exact sp2_get bs 64 i (by omega) (by omega)
theorem ch_eq (b c d : U32) : d ^^^ (b &&& (c ^^^ d)) = b &&& c ||| (b ^^^ 0xffffffff) &&& d := by
  have e : (0xffffffff : U32) = BitVec.allOnes 32 := rfl
  rw [e, BitVec.xor_allOnes]
  apply BitVec.eq_of_getLsbD_eq
  intro i hi
  simp only [BitVec.getLsbD_xor, BitVec.getLsbD_and, BitVec.getLsbD_or, BitVec.getLsbD_not, hi, decide_true, Bool.true_and]
  cases b.getLsbD i <;> cases c.getLsbD i <;> cases d.getLsbD i <;> rfl
theorem maj_eq (b c d : U32) : b &&& c ||| d &&& (b ||| c) = b &&& c ||| b &&& d ||| c &&& d := by
  apply BitVec.eq_of_getLsbD_eq
  intro i hi
  simp only [BitVec.getLsbD_and, BitVec.getLsbD_or]
  cases b.getLsbD i <;> cases c.getLsbD i <;> cases d.getLsbD i <;> rfl
theorem mix_eq (t : Nat) (b c d : U32) (ht : t < 80) : mixF t b c d = fR t b c d := by
  unfold mixF fR
  rcases (by omega : t < 20 ∨ (20 ≤ t ∧ t < 40) ∨ (40 ≤ t ∧ t < 60) ∨ 60 ≤ t) with h | ⟨h, h2⟩ | ⟨h, h2⟩ | h
  · rw [if_pos (by omega), if_pos h, ch_eq]
  · rw [if_neg (by omega), if_neg (by omega), if_neg (by omega), if_pos h2]
  · rw [if_neg (by omega), if_pos (by omega), if_neg (by omega), if_neg (by omega), if_pos h2, maj_eq]
  · rw [if_neg (by omega), if_neg (by omega), if_neg (by omega), if_neg (by omega), if_neg (by omega)]
theorem ks_eq (t : Nat) (ht : t < 80) : g32 ks (t / 20) = kR t := by
  unfold kR
  rcases (by omega : t < 20 ∨ (20 ≤ t ∧ t < 40) ∨ (40 ≤ t ∧ t < 60) ∨ 60 ≤ t) with h | ⟨h, h2⟩ | ⟨h, h2⟩ | h
  · rw [if_pos h, show t / 20 = 0 from by omega]; rfl
  · rw [if_neg (by omega), if_pos h2, show t / 20 = 1 from by omega]; rfl
  · rw [if_neg (by omega), if_neg (by omega), if_pos h2, show t / 20 = 2 from by omega]; rfl
  · rw [if_neg (by omega), if_neg (by omega), if_neg (by omega), show t / 20 = 3 from by omega]; rfl
theorem rounds_eq (ws : List U32) (v : V5) (k : Nat) (hk : k ≤ 80) : roundsF ws v k = roundsR ws v k := by
  induction k with
  | zero => rfl
  | succ k ih =>
    rw [roundsF, roundsR, ih (by omega), stepF, stepR, mix_eq _ _ _ _ (by omega), ks_eq k (by omega)]
theorem block_eq (h : V5) (bs : List U8) : blockF h bs = blockR h bs := by
  rw [blockF, blockR, spread_eq, rounds_eq _ _ _ (Nat.le_refl _)]
theorem blocks_eq (n : Nat) (h : V5) (p : List U8) : blocksF n h p = blocksR n h p := by
  induction n generalizing h p with
  | zero => rfl
  | succ n ih => rw [blocksF, blocksR, block_eq, ih]
theorem sum_eq (bs : List U8) : sumF bs = sumR bs := by
  rw [sumF, sumR, hashF, hashR, blocks_eq]
/-- What 'alive' looks at. -/
theorem abc0 : g8 (sumF [97, 98, 99]) 0 = 0xa9 ∧ g8 (sumF [97, 98, 99]) 1 = 0x99 ∧ g8 (sumF [97, 98, 99]) 19 = 0x9d := by decide +kernel
end Go.Proofs.Ytdddalcjcgeocaa
