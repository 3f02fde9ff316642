/- The live question of SHA-1's statements, walked. -/
import Derived.Lib.SlBytesConst
import Derived.Test.YtdddalcjcgeocaaLaw
import Derived.Test.YtdddalcjcgeocaaSha1T
import Derived.Test.YtdddalcjcgeocaaSha1L
namespace Go.Proofs.Ytdddalcjcgeocaa
open Go.RowKit
set_option linter.unusedVariables false
set_option linter.unusedSimpArgs false
attribute [local go_sem] i32_or i32_and i32_xor i32_wrap i32_add i32_of8 i8_of32 i8_of64 i64_wrap
attribute [local go_sem ↓ high] i32_shl i32_shr i64_shr
/-- A row just made, marked as a constant's bytes: its cells read as they were. -/
theorem sl_marked (w : World) (t : TypeId) (bs : List U8) (C : Array Value) (hC : C = cs8 bs) (fz : Nat × Nat) (hl : bs.length ≤ 1000) : Sl v8 (w.alloc (.cells C t fz)) (some ⟨w.heap.size, 0, none⟩) bs := by
  subst hC
  refine Sl.of_row (by omega) fun i x hx => ?_
  have : (w.alloc (.cells (cs8 bs) t fz)).heap[w.heap.size]? = some (.cells (cs8 bs) t fz) := Go.heap_alloc_new w _
  unfold World.cell?
  rw [this]
  simp [cs8, hx]
set_option maxRecDepth 100000 in
set_option maxHeartbeats 2000000 in
theorem alive (w : World) : Calls Try.prog 7 #[] w fun e w' => e = .returned (.bool true) ∧ Below w.heap.size w w' := by
  have hz := Try.zS20
  have kc := fun (w : World) (C : Array Value) (n c : Nat) => Lib.run_convert_bytes_const (P := Try.prog) w 22 5 C n c Try.underlying22 Try.underlying5
  obtain ⟨a0, a1, a19⟩ := abc0
  obtain ⟨H, hH⟩ : ∃ H, H = sumF [97, 98, 99] := ⟨_, rfl⟩
  have hHl : H.length = 20 := by rw [hH, sumF_length]
  rw [← hH] at a0 a1 a19
  have hsum : ∀ w A c, Sl v8 w A [97, 98, 99] → Calls Try.prog 8 #[.slice A 3 c] w fun e w' => e = .returned (.agg (cs8 H)) ∧ Below w.heap.size w w' := fun w A c h => by
    rw [hH]; exact sum [97, 98, 99] A c (by decide) w h
  clear hH
  have hc : ∀ (W : World) (i : Nat) (x : U8), i < 20 → g8 H i = x → ((W.alloc (.cells (cs8 (z8 20)) 24)).setRow W.heap.size (cs8 H)).cell? ⟨W.heap.size, i, none⟩ = some (.int .u8 (i8 x)) := fun W i x hi hx => by
    rw [← hx]; exact Own.cell8 ((Own.newc rfl rfl : Own _ _ _ (cs8 (z8 20))).row _) i (by omega)
  have c0 := fun W => hc W 0 _ (by decide) a0
  have c1 := fun W => hc W 1 _ (by decide) a1
  have c19 := fun W => hc W 19 _ (by decide) a19
  rw [show i8 169 = 169 from rfl] at c0
  rw [show i8 153 = 153 from rfl] at c1
  rw [show i8 157 = 157 from rfl] at c19
  have ix : ∀ w, Sem.run Try.prog (Instr.index 28 (.agg (cs32 startF.l)) (.int .i64 0)) w = .ok (.int .u32 1732584193) w := run_index_arr (P := Try.prog) 28 27 5 .u32 (cs32 startF.l) .i64 0 (.int .u32 1732584193) Try.underlying28 (by kernel_rfl) Try.underlying27 rfl rfl
  clear hc a0 a1 a19
  go_enter Try.func7, Try.ntmps7
  go_wp2_with (first | (go_at_call 8; refine (hsum _ _ _ ?_).mono ?_; (· exact sl_marked w _ _ _ rfl _ (by decide)); rintro e w1 ⟨rfl, hb1⟩) | ((with_reducible refine at_store (N := 1) rfl ?_); refine wpList_store_own rfl 24 (.tmp 1) (.tmp 4) rfl (g := w1.heap.size) (t := 24) (old := cs8 (z8 20)) ?_ (cs8 H) rfl rfl ?_ ?_ (cs8_one _) ?_; (· exact Own.newc rfl rfl); (· rw [Try.szS20, cs8_size, hHl]); (· rw [cs8_size, cs8_size, hHl]; rfl)) | (go_at_call 12; refine (start _).mono ?_; rintro e w2 ⟨rfl, hb2⟩))
  go_ret
  have h1 := hb1.size
  have h2 := hb2.size
  simp at h1 h2
  refine ⟨rfl, ?_⟩
  exact (below_row ((((Below.refl _ w).alloc (Nat.le_refl _) _).trans (hb1.mono (by simp))).alloc (by omega) _) (by omega) _).trans (hb2.mono (by simp; omega))
end Go.Proofs.Ytdddalcjcgeocaa
