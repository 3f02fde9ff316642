/- SHA-1's block, walked. -/
import Derived.Test.YtdddalcjcgeocaaSha1W
namespace Go.Proofs.Ytdddalcjcgeocaa
open Go.RowKit
set_option linter.unusedVariables false
set_option linter.unusedSimpArgs false
attribute [local go_sem] i32_or i32_and i32_xor i32_wrap i32_add i32_of8
attribute [local go_sem ↓ high] i32_shl i32_shr

set_option maxRecDepth 100000 in
set_option maxHeartbeats 2000000 in
theorem block (h : V5) (bs : List U8) (hl : bs.length = 64) (w : World) :
    Calls Try.prog 10 #[.agg (cs32 h.l), .agg (cs8 bs)] w fun e w' => e = .returned (.agg (cs32 (blockF h bs).l)) ∧ Below w.heap.size w w' := by
  have hz := Try.zH5
  have hz4 := Try.zK4
  go_enter Try.func10, Try.ntmps10
  go_wp2_with (first | ((with_reducible refine at_store (N := 5) rfl ?_); refine wpList_store_own rfl 39 (.tmp 5) (.tmp 11) rfl (g := w.heap.size + 1 + 1 + 1) (t := 39) (old := cs32 (z32 4)) ?_ (cs32 ks) rfl rfl ?_ ?_ (cs32_one _) ?_; (· exact Own.new' (by simp)); (· rw [Try.szK4]; rfl); (· rfl)) | ((with_reducible refine at_dst (N := 12) rfl ?_); refine wpList_load_own rfl 28 _ rfl (g := w.heap.size) (t := 28) (cs := cs32 h.l) ?_ rfl Try.underlying28 rfl ?_ ?_; (· (repeat (first | (with_reducible assumption) | ((with_reducible refine Own.newc ?_ ?_); (· simp; done); (· rfl)) | (with_reducible refine Own.alloc ?_ _) | ((with_reducible refine Own.row_ne ?_ ?_ _); rotate_left; (· omega)) | ((with_reducible refine Own.set_ne ?_ ?_ _ _); rotate_left; (· omega)) | (with_reducible refine Has.row ?_ _) | ((with_reducible refine Has.newc ?_); (simp; done)) | (with_reducible refine Has.alloc ?_ _) | ((with_reducible refine Has.row_ne ?_ ?_ _); rotate_left; (· omega)) | ((with_reducible refine Has.set_ne ?_ ?_ _ _); rotate_left; (· omega))))); (· rw [Try.szH5]; rfl)) | ((with_reducible refine at_store (N := 6) rfl ?_); refine wpList_store_own rfl 28 (.tmp 6) (.tmp 12) rfl (g := w.heap.size + 1 + 1 + 1 + 1) (t := 28) (old := cs32 (z32 5)) ?_ (cs32 h.l) rfl rfl ?_ ?_ (cs32_one _) ?_; (· exact Own.new' (by simp)); (· rw [Try.szH5]; rfl); (· rfl)) | ((with_reducible refine at_dst (N := 13) rfl ?_); refine wpList_load_own rfl 29 _ rfl (g := w.heap.size + 1) (t := 29) (cs := cs8 bs) ?_ rfl Try.underlying29 rfl ?_ ?_; (· (repeat (first | (with_reducible assumption) | ((with_reducible refine Own.newc ?_ ?_); (· simp; done); (· rfl)) | (with_reducible refine Own.alloc ?_ _) | ((with_reducible refine Own.row_ne ?_ ?_ _); rotate_left; (· omega)) | ((with_reducible refine Own.set_ne ?_ ?_ _ _); rotate_left; (· omega)) | (with_reducible refine Has.row ?_ _) | ((with_reducible refine Has.newc ?_); (simp; done)) | (with_reducible refine Has.alloc ?_ _) | ((with_reducible refine Has.row_ne ?_ ?_ _); rotate_left; (· omega)) | ((with_reducible refine Has.set_ne ?_ ?_ _ _); rotate_left; (· omega))))); (· rw [Try.szB64, cs8_size, hl])) | (go_at_call 15; refine (spread bs hl _).mono ?_; rintro e w1 ⟨rfl, hb1⟩))
  have hO0 : Own w1 w.heap.size 28 (cs32 h.l) := Own.below (by (repeat (first | (with_reducible assumption) | ((with_reducible refine Own.newc ?_ ?_); (· simp; done); (· rfl)) | (with_reducible refine Own.alloc ?_ _) | ((with_reducible refine Own.row_ne ?_ ?_ _); rotate_left; (· omega)) | ((with_reducible refine Own.set_ne ?_ ?_ _ _); rotate_left; (· omega)) | (with_reducible refine Has.row ?_ _) | ((with_reducible refine Has.newc ?_); (simp; done)) | (with_reducible refine Has.alloc ?_ _) | ((with_reducible refine Has.row_ne ?_ ?_ _); rotate_left; (· omega)) | ((with_reducible refine Has.set_ne ?_ ?_ _ _); rotate_left; (· omega))))) hb1
  have hO2 : Own w1 (w.heap.size + 1 + 1) 28 (cs32 (z32 5)) := Own.below (by (repeat (first | (with_reducible assumption) | ((with_reducible refine Own.newc ?_ ?_); (· simp; done); (· rfl)) | (with_reducible refine Own.alloc ?_ _) | ((with_reducible refine Own.row_ne ?_ ?_ _); rotate_left; (· omega)) | ((with_reducible refine Own.set_ne ?_ ?_ _ _); rotate_left; (· omega)) | (with_reducible refine Has.row ?_ _) | ((with_reducible refine Has.newc ?_); (simp; done)) | (with_reducible refine Has.alloc ?_ _) | ((with_reducible refine Has.row_ne ?_ ?_ _); rotate_left; (· omega)) | ((with_reducible refine Has.set_ne ?_ ?_ _ _); rotate_left; (· omega))))) hb1
  have hO3 : Own w1 (w.heap.size + 1 + 1 + 1) 39 (cs32 ks) := Own.below (by (repeat (first | (with_reducible assumption) | ((with_reducible refine Own.newc ?_ ?_); (· simp; done); (· rfl)) | (with_reducible refine Own.alloc ?_ _) | ((with_reducible refine Own.row_ne ?_ ?_ _); rotate_left; (· omega)) | ((with_reducible refine Own.set_ne ?_ ?_ _ _); rotate_left; (· omega)) | (with_reducible refine Has.row ?_ _) | ((with_reducible refine Has.newc ?_); (simp; done)) | (with_reducible refine Has.alloc ?_ _) | ((with_reducible refine Has.row_ne ?_ ?_ _); rotate_left; (· omega)) | ((with_reducible refine Has.set_ne ?_ ?_ _ _); rotate_left; (· omega))))) hb1
  have hO4 : Own w1 (w.heap.size + 1 + 1 + 1 + 1) 28 (cs32 h.l) := Own.below (by (repeat (first | (with_reducible assumption) | ((with_reducible refine Own.newc ?_ ?_); (· simp; done); (· rfl)) | (with_reducible refine Own.alloc ?_ _) | ((with_reducible refine Own.row_ne ?_ ?_ _); rotate_left; (· omega)) | ((with_reducible refine Own.set_ne ?_ ?_ _ _); rotate_left; (· omega)) | (with_reducible refine Has.row ?_ _) | ((with_reducible refine Has.newc ?_); (simp; done)) | (with_reducible refine Has.alloc ?_ _) | ((with_reducible refine Has.row_ne ?_ ?_ _); rotate_left; (· omega)) | ((with_reducible refine Has.set_ne ?_ ?_ _ _); rotate_left; (· omega))))) hb1
  have hB : Below w.heap.size w w1 := below_then (below_row ((below_row ((((((Below.refl _ _).alloc (Nat.le_refl _) _).alloc (by simp) _).alloc (by simp; omega) _).alloc (by simp; omega) _)) (by omega) _).alloc (by simp; omega) _) (by omega) _) hb1 (by simp; omega)
  clear hb1
  clear hl
  go_loopw [15] (fun i wr => ∃ k : Nat, k ≤ 80 ∧ i = .int .i64 k ∧ Own wr w.heap.size 28 (cs32 h.l) ∧ Own wr (w.heap.size + 1 + 1) 28 (cs32 (z32 5)) ∧ Own wr (w.heap.size + 1 + 1 + 1) 39 (cs32 ks) ∧ Own wr (w.heap.size + 1 + 1 + 1 + 1) 28 (cs32 (roundsF (spreadF bs) h k).l) ∧ Below w.heap.size w wr)
    (fun i _ => 80 - (intOf i).toNat)
  case atStart => exact ⟨0, by omega, rfl, hO0, hO2, hO3, hO4, hB⟩
  case round =>
    clear hO0 hO2 hO3 hO4 hB
    obtain ⟨k, hk, rfl, h0, h2, h3, h4, hb⟩ := hrel
    by_cases hlt : k < 80
    · have hix := run_index_arr (P := Try.prog) 40 27 80 .u32 (cs32 (spreadF bs)) .i64 k _ Try.underlying40 Try.szU32 Try.underlying27 (by rw [cs32_size, spreadF_length]) (cs32_get (spreadF bs) k (by rw [spreadF_length]; omega))
      obtain ⟨v, hv⟩ : ∃ v, v = roundsF (spreadF bs) h k := ⟨_, rfl⟩
      rw [← hv] at h4
      have HV := Lib.hid hv
      clear hv
      have ca : wr.cell? ⟨w.heap.size + 1 + 1 + 1 + 1, 0, none⟩ = some (.int .u32 (i32 v.a)) := h4.cell32 0 (by simp [V5.l])
      have cb : wr.cell? ⟨w.heap.size + 1 + 1 + 1 + 1, 1, none⟩ = some (.int .u32 (i32 v.b)) := h4.cell32 1 (by simp [V5.l])
      have cc : wr.cell? ⟨w.heap.size + 1 + 1 + 1 + 1, 2, none⟩ = some (.int .u32 (i32 v.c)) := h4.cell32 2 (by simp [V5.l])
      have cd : wr.cell? ⟨w.heap.size + 1 + 1 + 1 + 1, 3, none⟩ = some (.int .u32 (i32 v.d)) := h4.cell32 3 (by simp [V5.l])
      have ce : wr.cell? ⟨w.heap.size + 1 + 1 + 1 + 1, 4, none⟩ = some (.int .u32 (i32 v.e)) := h4.cell32 4 (by simp [V5.l])
      have ck := h3.cell32 (k / 20) (by rw [ks_length]; omega)
      have H0 := Lib.hid h0; have H2 := Lib.hid h2; have H3 := Lib.hid h3; have H4 := Lib.hid h4; have HB := Lib.hid hb
      clear h0 h2 h3 h4 hb
      go_wp2
      have q0 : ((k : Int).tdiv 20) = ((k / 20 : Nat) : Int) := by rw [Int.tdiv_eq_ediv_of_nonneg (by omega)]; omega
      have t0 : ((k : Int) / 20).toNat = k / 20 := by omega
      refine wp_region_plan 23 [(true, 0), (true, 1), (true, 3), (true, 4), (true, 5), (true, 6), (true, 7), (true, 8), (true, 9), (true, 12), (true, 13), (true, 15), (true, 16), (true, 17), (true, 18), (true, 20), (false, 2), (false, 10), (true, 11), (true, 14), (true, 19), (true, 21), (true, 22)]
        (fun W => W.cell? ⟨w.heap.size + 1 + 1 + 1 + 1, 0, none⟩ = some (.int .u32 (i32 v.a)) ∧ W.cell? ⟨w.heap.size + 1 + 1 + 1 + 1, 1, none⟩ = some (.int .u32 (i32 v.b)) ∧ W.cell? ⟨w.heap.size + 1 + 1 + 1 + 1, 2, none⟩ = some (.int .u32 (i32 v.c)) ∧ W.cell? ⟨w.heap.size + 1 + 1 + 1 + 1, 3, none⟩ = some (.int .u32 (i32 v.d)) ∧ W.cell? ⟨w.heap.size + 1 + 1 + 1 + 1, 4, none⟩ = some (.int .u32 (i32 v.e)) ∧ W.cell? ⟨w.heap.size + 1 + 1 + 1, k / 20, none⟩ = some (.int .u32 (i32 (g32 ks (k / 20)))))
        (by kernel_rfl) (by kernel_rfl) (fun _ _ d _ _ h => by cases d <;> exact h) ⟨ca, cb, cc, cd, ce, ck⟩ ?_
      repeat (refine plan_take ?_ rfl (Or.inl ⟨rfl, ?_⟩) ?_; rotate_left; (· intro W hS; (try dsimp only at hS); go_split_ands; go_simp; (try simp (disch := omega) only [w64_in]); (try rw [if_pos (by omega)]); (try with_reducible rfl)); (try simp only [Act.put, List.setIfInBounds_toArray, List.set_cons_zero, List.set_cons_succ]))
      refine plan_loud rfl ?_
      go_wp2_with (go_at_call 16; refine (rot _ 5 5 (by omega) (by decide) _).mono ?_; rintro e w' ⟨rfl, rfl⟩)
      refine ⟨⟨ca, cb, cc, cd, ce, ck⟩, ?_⟩
      refine plan_loud rfl ?_
      go_wp2_with (go_at_call 17; refine (mix k _ _ _ (by omega) _).mono ?_; rintro e w' ⟨rfl, rfl⟩)
      refine ⟨⟨ca, cb, cc, cd, ce, ck⟩, ?_⟩
      repeat (refine plan_take ?_ rfl (Or.inl ⟨rfl, ?_⟩) ?_; rotate_left; (· intro W hS; (try dsimp only at hS); go_split_ands; go_simp; (try simp (disch := omega) only [w64_in]); (try rw [if_pos (by omega)]); (try with_reducible rfl)); (try simp only [Act.put, List.setIfInBounds_toArray, List.set_cons_zero, List.set_cons_succ]))
      refine plan_done (by simp) ?_
      go_wp2
      clear q0 t0
      refine wp_region_plan 11 [(true, 0), (true, 1), (true, 2), (true, 3), (true, 4), (true, 6), (true, 7), (true, 8), (true, 9), (false, 5), (true, 10)]
        (fun W => W.cell? ⟨w.heap.size + 1 + 1 + 1 + 1, 0, none⟩ = some (.int .u32 (i32 v.a)) ∧ W.cell? ⟨w.heap.size + 1 + 1 + 1 + 1, 1, none⟩ = some (.int .u32 (i32 v.b)) ∧ W.cell? ⟨w.heap.size + 1 + 1 + 1 + 1, 2, none⟩ = some (.int .u32 (i32 v.c)) ∧ W.cell? ⟨w.heap.size + 1 + 1 + 1 + 1, 3, none⟩ = some (.int .u32 (i32 v.d)))
        (by kernel_rfl) (by kernel_rfl) (fun _ _ d _ _ h => by cases d <;> exact h) ⟨ca, cb, cc, cd⟩ ?_
      repeat (refine plan_take ?_ rfl (Or.inl ⟨rfl, ?_⟩) ?_; rotate_left; (· intro W hS; (try dsimp only at hS); go_split_ands; go_simp; (try simp (disch := omega) only [w64_in]); (try rw [if_pos (by omega)]); (try with_reducible rfl)); (try simp only [Act.put, List.setIfInBounds_toArray, List.set_cons_zero, List.set_cons_succ]))
      refine plan_loud rfl ?_
      go_wp2_with (go_at_call 16; refine (rot _ 30 30 (by omega) (by decide) _).mono ?_; rintro e w' ⟨rfl, rfl⟩)
      refine ⟨⟨ca, cb, cc, cd⟩, ?_⟩
      repeat (refine plan_take ?_ rfl (Or.inl ⟨rfl, ?_⟩) ?_; rotate_left; (· intro W hS; (try dsimp only at hS); go_split_ands; go_simp; (try simp (disch := omega) only [w64_in]); (try rw [if_pos (by omega)]); (try with_reducible rfl)); (try simp only [Act.put, List.setIfInBounds_toArray, List.set_cons_zero, List.set_cons_succ]))
      refine plan_tail ?_
      simp only [List.drop_succ_cons, List.drop_zero]
      clear ca cb cc cd ce ck
      go_wp2_with ((with_reducible refine at_store (N := 6) rfl ?_); refine wpList_store_own rfl 28 (.tmp 6) (.tmp 51) rfl (g := w.heap.size + 1 + 1 + 1 + 1) (t := 28) (old := cs32 v.l) ?_ (cs32 (stepF (spreadF bs) k v).l) rfl rfl ?_ ?_ (cs32_one _) ?_; (· exact H4.out); (· rw [Try.szH5, cs32_size, V5.l_length]); (· rw [cs32_size, cs32_size, V5.l_length, V5.l_length]))
      go_roundw
      case rel => exact ⟨k + 1, by omega, by go_num, H0.out.row_ne (by omega) _, H2.out.row_ne (by omega) _, H3.out.row_ne (by omega) _, (by rw [show roundsF (spreadF bs) h (k + 1) = stepF (spreadF bs) k v from by rw [HV.out]; rfl]; exact H4.out.row _), below_row HB.out.drew.drew (by omega) _⟩
      case measure => simp [intOf]; omega
    · have h4' : Own wr (w.heap.size + 1 + 1 + 1 + 1) 28 (cs32 (addK (roundsF (spreadF bs) h 80).l h.l 0)) := by
        have : k = 80 := by omega
        subst this; exact h4
      clear h4 h3
      obtain ⟨r, hr⟩ : ∃ r, r = roundsF (spreadF bs) h 80 := ⟨_, rfl⟩
      rw [← hr] at h4'
      have HR := Lib.hid hr
      clear hr
      go_wp2
      clear hk hlt
      go_loopw [53] (fun i wr => ∃ k : Nat, k ≤ 5 ∧ i = .int .i64 k ∧ Own wr w.heap.size 28 (cs32 h.l) ∧ Own wr (w.heap.size + 1 + 1) 28 (cs32 (z32 5)) ∧ Own wr (w.heap.size + 1 + 1 + 1 + 1) 28 (cs32 (addK r.l h.l k)) ∧ Below w.heap.size w wr)
        (fun i _ => 5 - (intOf i).toNat)
      case atStart => exact ⟨0, by omega, rfl, h0, h2, h4', hb⟩
      case round =>
        clear h0 h2 h4' hb
        obtain ⟨k, hk, rfl, h0, h2, h4, hb⟩ := hrel
        by_cases hlt : k < 5
        · have c1 := h4.cell32 k (by rw [addK_length]; exact hlt)
          have c2 := h0.cell32 k hlt
          have f1 := h4.frozen k
          have hki : (k : Int) < 5 := by omega
          have H0 := Lib.hid h0; have H2 := Lib.hid h2; have H4 := Lib.hid h4; have HB := Lib.hid hb
          clear h0 h2 h4 hb
          go_wp2
          refine wp_region_plan 8 [(true, 0), (true, 1), (true, 2), (true, 3), (true, 4), (true, 5), (true, 6), (true, 7)]
            (fun W => W.cell? ⟨w.heap.size + 1 + 1 + 1 + 1, k, none⟩ = some (.int .u32 (i32 (g32 (addK r.l h.l k) k))) ∧ W.cell? ⟨w.heap.size, k, none⟩ = some (.int .u32 (i32 (g32 h.l k))))
            (by kernel_rfl) (by kernel_rfl) (fun _ _ d _ _ h => by cases d <;> exact h) ⟨c1, c2⟩ ?_
          repeat (refine plan_take ?_ rfl (Or.inl ⟨rfl, ?_⟩) ?_; rotate_left; (· intro W hS; (try dsimp only at hS); go_split_ands; go_simp; (try simp (disch := omega) only [w64_in]); (try rw [if_pos (by omega)]); (try with_reducible rfl)); (try simp only [Act.put, List.setIfInBounds_toArray, List.set_cons_zero, List.set_cons_succ]))
          refine plan_tail ?_
          simp only [List.drop_succ_cons, List.drop_zero]
          go_wp2
          go_roundw
          case rel => exact ⟨k + 1, by omega, by go_num, H0.out.set_ne (by omega) _ _, H2.out.set_ne (by omega) _ _, H4.out.set32 _ _, (HB.out.setCell (by simp; omega) _).drew⟩
          case measure => simp [intOf]; omega
        · have h5 : Own wr (w.heap.size + 1 + 1 + 1 + 1) 28 (cs32 (blockF h bs).l) := by
            have : k = 5 := by omega
            subst this
            rw [blockF, ← HR.out, ← addK_all]; exact h4
          go_wp2_with (first | ((with_reducible refine at_dst (N := 65) rfl ?_); refine wpList_load_own rfl 28 _ rfl (g := w.heap.size + 1 + 1 + 1 + 1) (t := 28) (cs := cs32 (blockF h bs).l) h5 rfl Try.underlying28 rfl ?_ ?_; (· rw [Try.szH5, cs32_size, V5.l_length])) | ((with_reducible refine at_store (N := 4) rfl ?_); refine wpList_store_own rfl 28 (.tmp 4) (.tmp 65) rfl h2 (cs32 (blockF h bs).l) rfl rfl ?_ ?_ (cs32_one _) ?_; (· rw [Try.szH5, cs32_size, V5.l_length]); (· rw [cs32_size, cs32_size, z32_length, V5.l_length])))
          refine bodyPost_ret (results_own rfl _ (h2.row _) rfl Try.underlying28 rfl (by rw [Try.szH5, cs32_size, V5.l_length])) rfl ?_
          exact ⟨rfl, below_row hb (by omega) _⟩
end Go.Proofs.Ytdddalcjcgeocaa
