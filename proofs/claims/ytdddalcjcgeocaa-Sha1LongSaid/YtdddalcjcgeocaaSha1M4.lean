/- SHA-1's statements, walked: long ones. -/
import Derived.Test.YtdddalcjcgeocaaSha1A
namespace Go.Proofs.Ytdddalcjcgeocaa
open Go.RowKit
set_option linter.unusedVariables false
set_option linter.unusedSimpArgs false
attribute [local go_sem] i32_or i32_and i32_xor i32_wrap i32_add i32_of8 i8_of32 i8_of64 i64_wrap
attribute [local go_sem ↓ high] i32_shl i32_shr i64_shr
def longK (x : U8) (m : Nat) : Nat → List U8
  | 0 => z8 m
  | k + 1 => (longK x m k).set k x
theorem longK_length (x : U8) (m k : Nat) : (longK x m k).length = m := by
  induction k with
  | zero => exact z8_length m
  | succ k ih => simp [longK, ih]
set_option maxRecDepth 100000 in
set_option maxHeartbeats 2000000 in
theorem lawLong (x : U8) (n : Int) (hn : (Lit.int .i64 n).wf = true) (w : World) :
    Calls Try.prog 6 #[.int .u8 (i8 x), .int .i64 n] w fun e w' => e = .returned (.bool true) ∧ Below w.heap.size w w' := by
  obtain ⟨m, hm, hand⟩ := i64_and_mask n 2047 (by omega)
  have hmk := fun w => run_make8 (P := Try.prog) 22 5 Try.underlying22 Try.inU8 .i64 .i64 m (by omega) w
  clear hn
  rw [show ((2047 : Nat) : Int) = 2047 from rfl] at hand
  go_enter Try.func6, Try.ntmps6
  go_wp2
  clear hand hmk
  go_loopw [6] (fun i wr => ∃ k : Nat, k ≤ m ∧ i = .int .i64 k ∧ Own wr w.heap.size 5 (cs8 (longK x m k)) ∧ Below w.heap.size w wr)
    (fun i _ => m - (intOf i).toNat)
  case atStart => exact ⟨0, by omega, rfl, Own.newc rfl rfl, (Below.refl _ w).alloc (Nat.le_refl _) _⟩
  case round =>
    obtain ⟨k, hk, rfl, ho, hb⟩ := hrel
    by_cases hlt : k < m
    · have c1 := ho.cell8 k (by rw [longK_length]; omega)
      have f1 := ho.frozen k
      have HO := Lib.hid ho; have HB := Lib.hid hb
      clear ho hb
      go_wp2
      go_roundw
      case rel => exact ⟨k + 1, by omega, by go_num, HO.out.set8 k x, HB.out.setCell (Nat.le_refl _) _⟩
      case measure => simp [intOf]; omega
    · have hO : Own wr w.heap.size 5 (cs8 (longK x m m)) := by
        have : k = m := by omega
        subst this; exact ho
      clear ho
      obtain ⟨L, hL⟩ : ∃ L, L = longK x m m := ⟨_, rfl⟩
      have hl : L.length = m := by rw [hL, longK_length]
      rw [← hL] at hO
      clear hL
      have hs := own_sl8 hO (by omega)
      have hsum : ∀ W, Sl v8 W (some ⟨w.heap.size, 0, none⟩) L → Calls Try.prog 8 #[.slice (some ⟨w.heap.size, 0, none⟩) m m] W fun e w' => e = .returned (.agg (cs8 (sumF L))) ∧ Below W.heap.size W w' := fun W h => by
        have := sum L _ m (by omega) W h
        rwa [hl] at this
      have hsumR : ∀ W, Sl v8 W (some ⟨w.heap.size, 0, none⟩) L → Calls Try.prog 9 #[.slice (some ⟨w.heap.size, 0, none⟩) m m] W fun e w' => e = .returned (.agg (cs8 (sumR L))) ∧ Below W.heap.size W w' := fun W h => by
        have := sumRef L _ m (by omega) W h
        rwa [hl] at this
      have hq := fun W => run_eqi8 24 5 20 W Try.underlying24 (by kernel_rfl) Try.underlying5 (sumF L) (sumR L) (sumF_length L) (sumR_length L)
      rw [decide_eq_true (sum_eq L)] at hq
      have HL := Lib.hid hl
      clear hl hO
      go_wp2_with (first | (go_at_call 7; refine (alive _).mono ?_; rintro e w2 ⟨rfl, hb2⟩) | (go_at_call 8; refine (hsum _ (hs.below hb2)).mono ?_; rintro e w3 ⟨rfl, hb3⟩) | (go_at_call 9; refine (hsumR _ (hs.below (hb2.trans (hb3.mono hb2.size)))).mono ?_; rintro e w4 ⟨rfl, hb4⟩))
      go_ret
      exact ⟨rfl, hb.trans ((hb2.trans ((hb3.trans (hb4.mono hb3.size)).mono hb2.size)).mono hb.size)⟩
end Go.Proofs.Ytdddalcjcgeocaa
