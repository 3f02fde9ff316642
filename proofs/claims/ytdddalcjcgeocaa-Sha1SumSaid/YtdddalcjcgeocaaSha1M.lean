/- SHA-1's statements, walked: the hash of any bytes; the numbers behind any block. -/
import Derived.Test.YtdddalcjcgeocaaSha1A
namespace Go.Proofs.Ytdddalcjcgeocaa
open Go.RowKit
set_option linter.unusedVariables false
set_option linter.unusedSimpArgs false
attribute [local go_sem] i32_or i32_and i32_xor i32_wrap i32_add i32_of8 i8_of32 i8_of64 i64_wrap
attribute [local go_sem ↓ high] i32_shl i32_shr i64_shr
set_option maxRecDepth 100000 in
set_option maxHeartbeats 2000000 in
theorem lawSum (bs : List U8) (A : Option Addr) (c : Nat) (hm : bs.length ≤ maxLen) (w : World) (hbs : Sl v8 w A bs) :
    Calls Try.prog 3 #[.slice A bs.length c] w fun e w' => e = .returned (.bool true) ∧ Below w.heap.size w w' := by
  by_cases hlen : (400 : Int) < bs.length
  · go_enter Try.func3, Try.ntmps3
    go_wp2_with (go_at_call 7; refine (alive _).mono ?_; rintro e w1 ⟨rfl, hb1⟩)
    go_ret
    exact ⟨rfl, hb1⟩
  · have hbl : bs.length ≤ 1000000 := by omega
    go_enter Try.func3, Try.ntmps3
    go_wp2_with (first | ((with_reducible refine at_dst (N := 10) rfl ?_); refine wpList_apps v8_one (w0 := w) w.heap.size rfl (.tmp 8) (.tmp 9) 22 5 (.int .u8 0) 1 rfl Try.underlying22 Try.inU8 rfl (by decide) (.slice (some ⟨w.heap.size, 0, none⟩) 0 0) [] bs A c rfl rfl ?_ ?_ ?_ ?_ ?_ ?_; (· exact owns_made0 _ _ _ rfl (Nat.le_refl _)); (· exact hbs.below ((Below.refl _ _).alloc (Nat.le_refl _) _)); (· exact (Below.refl _ _).alloc (Nat.le_refl _) _); (· simp); (· simp; omega); intro v1 w1 ho1 hb1 hg1; simp only [List.nil_append] at ho1; obtain ⟨A1, c1, rfl, hc1, hl1, hs1⟩ := owns_sl ho1) | (go_at_call 7; refine (alive _).mono ?_; rintro e w2 ⟨rfl, hb2⟩) | (go_at_call 8; refine (sum bs A1 c1 hbl _ (hs1.below hb2)).mono ?_; rintro e w3 ⟨rfl, hb3⟩) | (go_at_call 9; refine (sumRef bs A c hbl _ ?_).mono ?_; (· exact (hbs.below hb1).below (hb2.trans (hb3.mono hb2.size))); rintro e w4 ⟨rfl, hb4⟩; have hbb := hb2.trans ((hb3.trans (hb4.mono hb3.size)).mono hb2.size); have hq := run_eqi8 24 5 20 w4 Try.underlying24 (by kernel_rfl) Try.underlying5 (sumF bs) (sumR bs) (sumF_length bs) (sumR_length bs); have k1 := run_bytes_str (hs1.below hbb) 22 9 5 c1 Try.underlying22 Try.underlying5 Try.underlying9; have k2 := run_bytes_str ((hbs.below hb1).below hbb) 22 9 5 c Try.underlying22 Try.underlying5 Try.underlying9; rw [decide_eq_true (sum_eq bs)] at hq))
    go_ret
    exact ⟨by simp, hb1.trans ((hb2.trans ((hb3.trans (hb4.mono hb3.size)).mono hb2.size)).mono hb1.size)⟩
end Go.Proofs.Ytdddalcjcgeocaa
