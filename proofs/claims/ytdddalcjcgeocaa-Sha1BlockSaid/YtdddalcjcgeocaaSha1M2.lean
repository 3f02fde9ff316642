/- SHA-1's statements, walked: the numbers behind any block. -/
import Derived.Test.YtdddalcjcgeocaaSha1A
namespace Go.Proofs.Ytdddalcjcgeocaa
open Go.RowKit
set_option linter.unusedVariables false
set_option linter.unusedSimpArgs false
attribute [local go_sem] i32_or i32_and i32_xor i32_wrap i32_add i32_of8 i8_of32 i8_of64 i64_wrap
attribute [local go_sem ↓ high] i32_shl i32_shr i64_shr
set_option maxRecDepth 100000 in
set_option maxHeartbeats 2000000 in
theorem lawBlock (h : V5) (bs : List U8) (hl : bs.length = 64) (w : World) :
    Calls Try.prog 4 #[.agg (cs32 h.l), .agg (cs8 bs)] w fun e w' => e = .returned (.bool true) ∧ Below w.heap.size w w' := by
  have hq1 := fun W => run_eqi32 28 27 5 W Try.underlying28 (by kernel_rfl) Try.underlying27 (blockF h bs).l (blockR h bs).l (V5.l_length _) (V5.l_length _)
  have hq2 := fun W => run_eqi32 28 27 5 W Try.underlying28 (by kernel_rfl) Try.underlying27 startF.l startF.l (V5.l_length _) (V5.l_length _)
  rw [decide_eq_true (show (blockF h bs).l = (blockR h bs).l by rw [block_eq])] at hq1
  rw [decide_eq_true rfl] at hq2
  have hS : ∀ W W', (Own W w.heap.size 28 (cs32 h.l) ∧ Own W (w.heap.size + 1) 29 (cs8 bs) ∧ Below w.heap.size w W) → Below W.heap.size W W' → (Own W' w.heap.size 28 (cs32 h.l) ∧ Own W' (w.heap.size + 1) 29 (cs8 bs) ∧ Below w.heap.size w W') := fun W W' ⟨h1, h2, h3⟩ hb => ⟨h1.below hb, h2.below hb, h3.trans (hb.mono h3.size)⟩
  go_enter Try.func4, Try.ntmps4
  go_wp2
  have S0 : (fun W => Own W w.heap.size 28 (cs32 h.l) ∧ Own W (w.heap.size + 1) 29 (cs8 bs) ∧ Below w.heap.size w W) ((w.alloc (.cells (cs32 h.l) 28)).alloc (.cells (cs8 bs) 29)).drew := ⟨(Own.newc rfl rfl : Own _ _ _ (cs32 h.l)).alloc _, Own.newc (by simp) rfl, (((Below.refl _ w).alloc (Nat.le_refl _) _).alloc (by simp) _).drew⟩
  refine wp_region_plan 16 [(false, 0), (true, 1), (true, 2), (true, 3), (true, 5), (true, 6), (false, 4), (false, 7), (true, 8), (true, 9), (true, 10), (false, 11), (false, 12), (true, 13), (true, 14), (true, 15)]
    (fun W => Own W w.heap.size 28 (cs32 h.l) ∧ Own W (w.heap.size + 1) 29 (cs8 bs) ∧ Below w.heap.size w W)
    (by kernel_rfl) (by kernel_rfl) (fun _ _ d _ _ h => by cases d <;> exact h) S0 ?_
  refine plan_loud rfl ?_
  go_wp2_with (go_at_call 7; refine (alive _).mono ?_; rintro e w1 ⟨rfl, hb1⟩)
  have S1 := hS _ _ S0 hb1
  refine ⟨S1, ?_⟩
  (refine plan_take ?_ rfl (Or.inl ⟨rfl, ?_⟩) ?_; rotate_left; (· intro W hS; (try dsimp only at hS); go_split_ands; go_simp; (try simp (disch := omega) only [w64_in]); (try rw [if_pos (by omega)]); (try with_reducible rfl)); (try simp only [Act.put, List.setIfInBounds_toArray, List.set_cons_zero, List.set_cons_succ]))
  refine plan_take _ rfl (yieldsIf_load_own rfl 28 _ rfl w.heap.size rfl 28 (cs32 h.l) _ (fun W h => h.1) Try.underlying28 rfl (by rw [Try.szH5]; rfl)) ?_
  (try simp only [Act.put, List.setIfInBounds_toArray, List.set_cons_zero, List.set_cons_succ])
  refine plan_take _ rfl (yieldsIf_load_own rfl 29 _ rfl (w.heap.size + 1) rfl 29 (cs8 bs) _ (fun W h => h.2.1) Try.underlying29 rfl (by rw [Try.szB64, cs8_size, hl])) ?_
  (try simp only [Act.put, List.setIfInBounds_toArray, List.set_cons_zero, List.set_cons_succ])
  refine plan_take _ rfl (yieldsIf_load_own rfl 28 _ rfl w.heap.size rfl 28 (cs32 h.l) _ (fun W h => h.1) Try.underlying28 rfl (by rw [Try.szH5]; rfl)) ?_
  (try simp only [Act.put, List.setIfInBounds_toArray, List.set_cons_zero, List.set_cons_succ])
  (refine plan_take ?_ rfl (Or.inl ⟨rfl, ?_⟩) ?_; rotate_left; (· intro W hS; (try dsimp only at hS); go_split_ands; go_simp; (try simp (disch := omega) only [w64_in]); (try rw [if_pos (by omega)]); (try with_reducible rfl)); (try simp only [Act.put, List.setIfInBounds_toArray, List.set_cons_zero, List.set_cons_succ]))
  refine plan_loud rfl ?_
  go_wp2_with (go_at_call 10; refine (block h bs hl _).mono ?_; rintro e w2 ⟨rfl, hb2⟩)
  have S2 := hS _ _ S1 hb2
  refine ⟨S2, ?_⟩
  refine plan_loud rfl ?_
  go_wp2_with (go_at_call 11; refine (blockRef h bs _ _ hl _ (own_sl8 S2.2.1 (by omega))).mono ?_; rintro e w3 ⟨rfl, hb3⟩)
  have S3 := hS _ _ S2 hb3
  refine ⟨S3, ?_⟩
  refine plan_take _ rfl (yieldsIf_eql rfl 28 28 _ _ rfl _ _ rfl rfl (by kernel_rfl) true hq1) ?_
  (try simp only [Act.put, List.setIfInBounds_toArray, List.set_cons_zero, List.set_cons_succ])
  (refine plan_take ?_ rfl (Or.inl ⟨rfl, ?_⟩) ?_; rotate_left; (· intro W hS; (try dsimp only at hS); go_split_ands; go_simp; (try simp (disch := omega) only [w64_in]); (try rw [if_pos (by omega)]); (try with_reducible rfl)); (try simp only [Act.put, List.setIfInBounds_toArray, List.set_cons_zero, List.set_cons_succ]))
  (refine plan_take ?_ rfl (Or.inl ⟨rfl, ?_⟩) ?_; rotate_left; (· intro W hS; (try dsimp only at hS); go_split_ands; go_simp; (try simp (disch := omega) only [w64_in]); (try rw [if_pos (by omega)]); (try with_reducible rfl)); (try simp only [Act.put, List.setIfInBounds_toArray, List.set_cons_zero, List.set_cons_succ]))
  refine plan_loud rfl ?_
  go_wp2_with (go_at_call 12; refine (start _).mono ?_; rintro e w4 ⟨rfl, hb4⟩)
  have S4 := hS _ _ S3 hb4
  refine ⟨S4, ?_⟩
  refine plan_loud rfl ?_
  go_wp2_with (go_at_call 13; refine (startRef _).mono ?_; rintro e w5 ⟨rfl, hb5⟩)
  have S5 := hS _ _ S4 hb5
  refine ⟨S5, ?_⟩
  refine plan_take _ rfl (yieldsIf_eql rfl 28 28 _ _ rfl _ _ rfl rfl (by kernel_rfl) true hq2) ?_
  (try simp only [Act.put, List.setIfInBounds_toArray, List.set_cons_zero, List.set_cons_succ])
  (refine plan_take ?_ rfl (Or.inl ⟨rfl, ?_⟩) ?_; rotate_left; (· intro W hS; (try dsimp only at hS); go_split_ands; go_simp; (try simp (disch := omega) only [w64_in]); (try rw [if_pos (by omega)]); (try with_reducible rfl)); (try simp only [Act.put, List.setIfInBounds_toArray, List.set_cons_zero, List.set_cons_succ]))
  (refine plan_take ?_ rfl (Or.inl ⟨rfl, ?_⟩) ?_; rotate_left; (· intro W hS; (try dsimp only at hS); go_split_ands; go_simp; (try simp (disch := omega) only [w64_in]); (try rw [if_pos (by omega)]); (try with_reducible rfl)); (try simp only [Act.put, List.setIfInBounds_toArray, List.set_cons_zero, List.set_cons_succ]))
  refine plan_done (by simp) ?_
  go_wp2
  go_ret
  exact ⟨rfl, S5.2.2⟩
theorem lawBlock5 (xs : List U32) (h5 : xs.length = 5) (bs : List U8) (hl : bs.length = 64) (w : World) :
    Calls Try.prog 4 #[.agg (cs32 xs), .agg (cs8 bs)] w fun e w' => e = .returned (.bool true) ∧ Below w.heap.size w w' := by
  rcases xs with _ | ⟨a, _ | ⟨b, _ | ⟨c, _ | ⟨d, _ | ⟨e, _ | ⟨f, xs⟩⟩⟩⟩⟩⟩ <;> simp at h5
  exact lawBlock ⟨a, b, c, d, e⟩ bs hl w
end Go.Proofs.Ytdddalcjcgeocaa
