/- What SHA-1's inner functions compute, walked. -/
import Derived.Test.YtdddalcjcgeocaaProg
import Derived.Test.YtdddalcjcgeocaaSha1F
namespace Go.Proofs.Ytdddalcjcgeocaa
open Go.RowKit
set_option linter.unusedVariables false
set_option linter.unusedSimpArgs false
attribute [local go_sem] i32_or i32_and i32_xor i32_wrap i32_add i32_of8
attribute [local go_sem ↓ high] i32_shl i32_shr

set_option maxHeartbeats 400000 in
theorem rot (x : U32) (k : Int) (n : Nat) (hn : n < 32) (hs : bits .and .u64 (IntKind.u64.wrap k) 31 = (n : Int)) (w : World) :
    Calls Try.prog 16 #[.int .u32 (i32 x), .int .i64 k] w fun e w' => e = .returned (.int .u32 (i32 (rol x n))) ∧ w = w' := by
  go_enter Try.func16, Try.ntmps16
  go_wp2
  go_ret
  exact ⟨by simp [i32_shlm, i32_shr', i32_or]; rfl, rfl⟩

theorem Try.szB64 : (Try.prog.info? 29).map (·.size) = some 64 := by kernel_rfl
theorem Try.szW80 : (Try.prog.info? 40).map (·.size) = some 80 := by kernel_rfl
theorem Try.szH5 : (Try.prog.info? 28).map (·.size) = some 5 := by kernel_rfl
theorem Try.szK4 : (Try.prog.info? 39).map (·.size) = some 4 := by kernel_rfl
theorem Try.szU8 : (Try.prog.info? 5).map (·.size) = some 1 := by kernel_rfl
theorem Try.szU32 : (Try.prog.info? 27).map (·.size) = some 1 := by kernel_rfl
theorem Try.zW80 (w : World) : Sem.run Try.prog (zeroValue 40) w = .ok (.agg (cs32 (z32 80))) w := by kernel_rfl
theorem Try.zH5 (w : World) : Sem.run Try.prog (zeroValue 28) w = .ok (.agg #[.int .u32 0, .int .u32 0, .int .u32 0, .int .u32 0, .int .u32 0]) w := by kernel_rfl
theorem Try.zK4 (w : World) : Sem.run Try.prog (zeroValue 39) w = .ok (.agg #[.int .u32 0, .int .u32 0, .int .u32 0, .int .u32 0]) w := by kernel_rfl

set_option maxRecDepth 100000 in
set_option maxHeartbeats 1000000 in
theorem spread (bs : List U8) (hl : bs.length = 64) (w : World) :
    Calls Try.prog 15 #[.agg (cs8 bs)] w fun e w' => e = .returned (.agg (cs32 (spreadF bs))) ∧ Below w.heap.size w w' := by
  have hz := Try.zW80
  go_enter Try.func15, Try.ntmps15
  go_wp2_with ((with_reducible refine at_dst (N := 7) rfl ?_); refine wpList_load_own rfl 29 _ rfl (g := w.heap.size) (t := 29) (cs := cs8 bs) ?_ rfl Try.underlying29 rfl ?_ ?_; (· exact ((Own.new' (by simp)).alloc _).alloc _); (· rw [Try.szB64, cs8_size, hl]))
  go_loopw [8] (fun i wr => ∃ k : Nat, k ≤ 64 ∧ i = .int .i64 k ∧ Own wr (w.heap.size + 1 + 1) 40 (cs32 (sp1 bs k)) ∧ Own wr (w.heap.size + 1) 40 (cs32 (z32 80)) ∧ Below w.heap.size w wr)
    (fun i _ => 64 - (intOf i).toNat)
  case atStart => exact ⟨0, by omega, rfl, Own.new' (by simp), (Own.new' (by simp)).alloc _, ((((Below.refl _ _).alloc (Nat.le_refl _) _).alloc (by simp) _).alloc (by simp; omega) _)⟩
  case round =>
    obtain ⟨k, hk, rfl, hw, hr, hb⟩ := hrel
    by_cases hlt : k < 64
    · have hix := run_index_arr (P := Try.prog) 29 5 64 .u8 (cs8 bs) .i64 k _ Try.underlying29 Try.szU8 Try.underlying5 (by rw [cs8_size, hl]) (cs8_get bs k (by omega))
      have hc := hw.cell32 (k / 4) (by rw [sp1_length]; omega)
      have hf := hw.frozen (k / 4)
      have HW := Lib.hid hw; have HR := Lib.hid hr; have HB := Lib.hid hb
      clear hw hr hb
      go_wp2
      go_roundw
      case rel => exact ⟨k + 1, by omega, by go_num, HW.out.set32 _ _, HR.out.set_ne (by omega) _ _, HB.out.setCell (by simp; omega) _⟩
      case measure => simp [intOf]; omega
    · have hw0 : Own wr (w.heap.size + 1 + 1) 40 (cs32 (sp1 bs 64)) := by
        have : k = 64 := by omega
        subst this; exact hw
      clear hw
      go_wp2
      clear hk hlt
      go_loopw [6] (fun i wr => ∃ k : Nat, k ≤ 64 ∧ i = .int .i64 ((k : Int) + 16) ∧ Own wr (w.heap.size + 1 + 1) 40 (cs32 (sp2 bs k)) ∧ Own wr (w.heap.size + 1) 40 (cs32 (z32 80)) ∧ Below w.heap.size w wr)
        (fun i _ => 80 - (intOf i).toNat)
      case atStart => exact ⟨0, by omega, rfl, hw0, hr, hb⟩
      case round =>
        clear hw0 hr hb
        obtain ⟨k, hk, rfl, hw, hr, hb⟩ := hrel
        by_cases hlt : k < 64
        · have hc0 := hw.cell32 k (by rw [sp2_length]; omega)
          have hc2 := hw.cell32 (k + 2) (by rw [sp2_length]; omega)
          have hc8 := hw.cell32 (k + 8) (by rw [sp2_length]; omega)
          have hc13 := hw.cell32 (k + 13) (by rw [sp2_length]; omega)
          have hc16 := hw.cell32 (k + 16) (by rw [sp2_length]; omega)
          have hf16 := hw.frozen (k + 16)
          have HW := Lib.hid hw; have HR := Lib.hid hr; have HB := Lib.hid hb
          clear hw hr hb
          go_wp2
          have t3 : ((k : Int) + 16 - 3).toNat = k + 13 := by omega
          have t8 : ((k : Int) + 16 - 8).toNat = k + 8 := by omega
          have t14 : ((k : Int) + 16 - 14).toNat = k + 2 := by omega
          have t0 : ((k : Int) + 16).toNat = k + 16 := by omega
          refine wp_region_plan 22 [(true, 0), (true, 1), (true, 2), (true, 3), (true, 4), (true, 5), (true, 6), (true, 7), (true, 8), (true, 9), (true, 10), (true, 11), (true, 12), (true, 13), (true, 14), (true, 15), (true, 16), (true, 17), (true, 18), (true, 19), (false, 20), (true, 21)]
            (fun W => W.cell? ⟨w.heap.size + 1 + 1, k, none⟩ = some (.int .u32 (i32 (g32 (sp2 bs k) k))) ∧ W.cell? ⟨w.heap.size + 1 + 1, k + 2, none⟩ = some (.int .u32 (i32 (g32 (sp2 bs k) (k + 2)))) ∧
             W.cell? ⟨w.heap.size + 1 + 1, k + 8, none⟩ = some (.int .u32 (i32 (g32 (sp2 bs k) (k + 8)))) ∧ W.cell? ⟨w.heap.size + 1 + 1, k + 13, none⟩ = some (.int .u32 (i32 (g32 (sp2 bs k) (k + 13)))))
            (by kernel_rfl) (by kernel_rfl) (fun _ _ d _ _ h => by cases d <;> exact h) ⟨hc0, hc2, hc8, hc13⟩ ?_
          repeat (refine plan_take ?_ rfl (Or.inl ⟨rfl, ?_⟩) ?_; rotate_left; (· intro W hS; (try dsimp only at hS); go_split_ands; go_simp; (try simp (disch := omega) only [w64_in]); (try rw [if_pos (by omega)]); (try with_reducible rfl)); (try simp only [Act.put, List.setIfInBounds_toArray, List.set_cons_zero, List.set_cons_succ]))
          refine plan_loud rfl ?_
          go_wp2_with (go_at_call 16; refine (rot _ 1 1 (by omega) (by decide) _).mono ?_; rintro e w' ⟨rfl, rfl⟩)
          refine ⟨⟨hc0, hc2, hc8, hc13⟩, ?_⟩
          repeat (refine plan_take ?_ rfl (Or.inl ⟨rfl, ?_⟩) ?_; rotate_left; (· intro W hS; (try dsimp only at hS); go_split_ands; go_simp; (try simp (disch := omega) only [w64_in]); (try rw [if_pos (by omega)]); (try with_reducible rfl)); (try simp only [Act.put, List.setIfInBounds_toArray, List.set_cons_zero, List.set_cons_succ]))
          refine plan_tail ?_
          clear t3 t8 t14 hc0 hc2 hc8 hc13
          simp only [List.drop_succ_cons, List.drop_zero]
          go_wp2
          clear t0
          go_roundw
          case rel => exact ⟨k + 1, by omega, by go_num, HW.out.set32 _ _, HR.out.set_ne (by omega) _ _, (HB.out.setCell (by simp; omega) _).drew⟩
          case measure => simp [intOf]; omega
        · have hw0 : Own wr (w.heap.size + 1 + 1) 40 (cs32 (sp2 bs 64)) := by
            have : k = 64 := by omega
            subst this; exact hw
          go_wp2_with (first | ((with_reducible refine at_dst (N := 50) rfl ?_); refine wpList_load_own rfl 40 _ rfl (g := w.heap.size + 1 + 1) (t := 40) (cs := cs32 (sp2 bs 64)) hw0 rfl Try.underlying40 rfl ?_ ?_; (· rw [Try.szW80, cs32_size, sp2_length])) | ((with_reducible refine at_store (N := 2) rfl ?_); refine wpList_store_own rfl 40 (.tmp 2) (.tmp 50) rfl hr (cs32 (sp2 bs 64)) rfl rfl ?_ ?_ (cs32_one _) ?_; (· rw [Try.szW80, cs32_size, sp2_length]); (· rw [cs32_size, cs32_size, sp2_length, z32_length])))
          refine bodyPost_ret (results_own rfl _ (hr.row _) rfl Try.underlying40 rfl (by rw [Try.szW80, cs32_size, sp2_length])) rfl ?_
          exact ⟨rfl, below_row hb (by omega) _⟩

set_option maxHeartbeats 400000 in
theorem mix (t : Nat) (b c d : U32) (ht : t < 80) (w : World) :
    Calls Try.prog 17 #[.int .i64 (t : Int), .int .u32 (i32 b), .int .u32 (i32 c), .int .u32 (i32 d)] w fun e w' => e = .returned (.int .u32 (i32 (mixF t b c d))) ∧ w = w' := by
  have hq : ((t : Int).tdiv 20) = ((t / 20 : Nat) : Int) := by rw [Int.tdiv_eq_ediv_of_nonneg (by omega)]; omega
  by_cases h0 : t / 20 = 0
  · have hm : mixF t b c d = d ^^^ (b &&& (c ^^^ d)) := by simp [mixF, h0]
    rw [hm]
    have e0 : (((t : Int) / 20) == 0) = true := by rw [beq_iff_eq]; omega
    clear hq h0 hm
    go_enter Try.func17, Try.ntmps17
    go_wp2
    go_ret
    exact ⟨by simp [i32_xor, i32_and], rfl⟩
  · by_cases h2 : t / 20 = 2
    · have hm : mixF t b c d = b &&& c ||| d &&& (b ||| c) := by simp [mixF, h2]
      rw [hm]
      have e0 : (((t : Int) / 20) == 0) = false := by rw [beq_eq_false_iff_ne]; omega
      have e2 : (((t : Int) / 20) == 2) = true := by rw [beq_iff_eq]; omega
      clear hq h0 hm h2
      go_enter Try.func17, Try.ntmps17
      go_wp2
      go_ret
      exact ⟨by simp [i32_xor, i32_and, i32_or], rfl⟩
    · have hm : mixF t b c d = b ^^^ c ^^^ d := by simp [mixF, h2, h0]
      rw [hm]
      have e0 : (((t : Int) / 20) == 0) = false := by rw [beq_eq_false_iff_ne]; omega
      have e2 : (((t : Int) / 20) == 2) = false := by rw [beq_eq_false_iff_ne]; omega
      clear hq h0 hm h2
      go_enter Try.func17, Try.ntmps17
      go_wp2
      go_ret
      exact ⟨by simp [i32_xor], rfl⟩

theorem lit5 (v : V5) : (#[.int .u32 (i32 v.a), .int .u32 (i32 v.b), .int .u32 (i32 v.c), .int .u32 (i32 v.d), .int .u32 (i32 v.e)] : Array Value) = cs32 v.l := rfl
set_option maxHeartbeats 400000 in
theorem start (w : World) :
    Calls Try.prog 12 #[] w fun e w' => e = .returned (.agg (cs32 startF.l)) ∧ Below w.heap.size w w' := by
  have hz := Try.zH5
  go_enter Try.func12, Try.ntmps12
  go_wp2_with ((with_reducible refine at_store (N := 0) rfl ?_); refine wpList_store_own rfl 28 (.tmp 0) (.tmp 1) rfl (g := w.heap.size) (t := 28) (old := cs32 (z32 5)) ?_ (cs32 startF.l) rfl rfl ?_ ?_ (cs32_one _) ?_; (· exact Own.new' rfl); (· rw [Try.szH5]; rfl); (· rfl))
  refine bodyPost_ret (results_own rfl _ ((Own.new' rfl).row _) rfl Try.underlying28 rfl (by rw [Try.szH5]; rfl)) rfl ?_
  exact ⟨rfl, below_row ((Below.refl _ _).alloc (Nat.le_refl _) _) (Nat.le_refl _) _⟩
end Go.Proofs.Ytdddalcjcgeocaa
