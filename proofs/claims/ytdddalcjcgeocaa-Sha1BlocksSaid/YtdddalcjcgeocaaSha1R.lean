/- What the document's SHA-1 computes, walked: a block. -/
import Derived.Test.YtdddalcjcgeocaaProg
import Derived.Test.YtdddalcjcgeocaaRow
import Derived.Test.YtdddalcjcgeocaaSha1W
import Derived.Test.YtdddalcjcgeocaaSha1G
namespace Go.Proofs.Ytdddalcjcgeocaa
open Go.RowKit
set_option linter.unusedVariables false
set_option linter.unusedSimpArgs false
attribute [local go_sem] i32_or i32_and i32_xor i32_wrap i32_add i32_of8 i8_of32 i8_of64 i64_wrap
attribute [local go_sem ↓ high] i32_shl i32_shr i64_shr

theorem Try.inU32 : (Try.prog.info? 27).map (fun i => (i.zero, i.size, i.bytes)) = some (some (.int .u32 0), 1, 4) := by kernel_rfl
theorem i32_ones : (4294967295 : Int) = i32 0xffffffff := rfl
theorem i32_xones (x : U32) : bits .xor .u32 (i32 x) 4294967295 = i32 (x ^^^ 0xffffffff) := by rw [i32_ones, i32_xor]
set_option maxHeartbeats 400000 in
theorem turned (x : U32) (n : Nat) (hn : n < 32) (w : World) :
    Calls Try.prog 18 #[.int .u32 (i32 x), .int .u64 (n : Int)] w fun e w' => e = .returned (.int .u32 (i32 (rol x n))) ∧ w = w' := by
  go_enter Try.func18, Try.ntmps18
  go_wp2
  go_ret
  exact ⟨by simp [i32_shlm, i32_shr', i32_or]; rfl, rfl⟩
attribute [local go_sem] i32_xones in
set_option maxHeartbeats 400000 in
theorem stepRef (t : Nat) (b c d : U32) (ht : t < 80) (w : World) :
    Calls Try.prog 19 #[.int .i64 (t : Int), .int .u32 (i32 b), .int .u32 (i32 c), .int .u32 (i32 d)] w fun e w' => e = .returned (.tuple #[.int .u32 (i32 (fR t b c d)), .int .u32 (i32 (kR t))]) ∧ w = w' := by
  rcases (by omega : t < 20 ∨ (20 ≤ t ∧ t < 40) ∨ (40 ≤ t ∧ t < 60) ∨ 60 ≤ t) with h | ⟨h, h2⟩ | ⟨h, h2⟩ | h
  · have h20 := h
    go_enter Try.func19, Try.ntmps19
    go_wp2
    go_ret2
    exact ⟨by simp [fR, kR, i32_or, i32_and, i32_xor, i32_ones, h20]; rfl, rfl⟩
  · have h20 : ¬ t < 20 := by omega
    go_enter Try.func19, Try.ntmps19
    go_wp2
    go_ret2
    exact ⟨by simp [fR, kR, i32_or, i32_and, i32_xor, i32_ones, h20, h2]; rfl, rfl⟩
  · have h20 : ¬ t < 20 := by omega
    have h40 : ¬ t < 40 := by omega
    go_enter Try.func19, Try.ntmps19
    go_wp2
    go_ret2
    exact ⟨by simp [fR, kR, i32_or, i32_and, i32_xor, i32_ones, h20, h2, h40]; rfl, rfl⟩
  · have h20 : ¬ t < 20 := by omega
    have h40 : ¬ t < 40 := by omega
    have h60 : ¬ t < 60 := by omega
    go_enter Try.func19, Try.ntmps19
    go_wp2
    go_ret2
    exact ⟨by simp [fR, kR, i32_or, i32_and, i32_xor, i32_ones, h20, h40, h60]; rfl, rfl⟩

set_option maxHeartbeats 400000 in
theorem startRef (w : World) :
    Calls Try.prog 13 #[] w fun e w' => e = .returned (.agg (cs32 startF.l)) ∧ Below w.heap.size w w' := by
  have hz := Try.zH5
  go_enter Try.func13, Try.ntmps13
  go_wp2_with ((with_reducible refine at_store (N := 0) rfl ?_); refine wpList_store_own rfl 28 (.tmp 0) (.tmp 1) rfl (g := w.heap.size) (t := 28) (old := cs32 (z32 5)) ?_ (cs32 startF.l) rfl rfl ?_ ?_ (cs32_one _) ?_; (· exact Own.newc rfl rfl); (· rw [Try.szH5]; rfl); (· rfl))
  refine bodyPost_ret (results_own rfl _ ((Own.newc rfl rfl : Own _ _ _ (cs32 (z32 5))).row _) rfl Try.underlying28 rfl (by rw [Try.szH5]; rfl)) rfl ?_
  exact ⟨rfl, below_row ((Below.refl _ _).alloc (Nat.le_refl _) _) (Nat.le_refl _) _⟩

set_option maxRecDepth 100000 in
set_option maxHeartbeats 4000000 in
theorem blockRef (h : V5) (bs : List U8) (A : Option Addr) (c : Nat) (hl : bs.length = 64) (w : World) (hbs : Sl v8 w A bs) :
    Calls Try.prog 11 #[.agg (cs32 h.l), .slice A 64 c] w fun e w' => e = .returned (.agg (cs32 (blockR h bs).l)) ∧ Below w.heap.size w w' := by
  have hz := Try.zH5
  obtain ⟨b, o, rfl, hcells⟩ := hbs.all (by omega)
  have HC := Lib.hid hcells
  have HL := Lib.hid hl
  clear hcells hbs hl
  go_enter Try.func11, Try.ntmps11
  go_wp2
  go_loopw [5, 6] (fun v i wr => ∃ t : Nat, t ≤ 80 ∧ i = .int .i64 t ∧ wr.ownsRow (w.heap.size + 1 + 1) 27 1 v (wR bs t).length ((wR bs t).map v32) ∧ Below (w.heap.size + 1 + 1) ((w.alloc (.cells (cs32 h.l) 28)).alloc (.cells #[.int .u32 0, .int .u32 0, .int .u32 0, .int .u32 0, .int .u32 0] 28)) wr)
    (fun _ i _ => 80 - (intOf i).toNat)
  case atStart => exact ⟨0, by omega, rfl, owns_made0 _ _ _ (by simp) (by simp), (Below.refl _ _).alloc (by simp) _⟩
  case round =>
    obtain ⟨t, ht, rfl, ho, hb⟩ := hrel
    obtain ⟨A2, c2, rfl, hc2, _, hsl⟩ := owns_sl ho
    rw [wR_length] at ho hc2 ⊢
    have hbw : Below w.heap.size w wr := ((((Below.refl _ w).alloc (Nat.le_refl _) _).alloc (by simp) _).trans (hb.mono (by omega)))
    by_cases hlt : t < 80
    · by_cases h16 : t < 16
      · have hq : ∀ j, j < 64 → wr.cell? ⟨b, o + j, none⟩ = some (.int .u8 (i8 (g8 bs j))) := fun j hj => by
          have hj' : j < bs.length := by rw [HL.out]; exact hj
          have := cell_below hbw (HC.out j bs[j] (List.getElem?_eq_getElem hj'))
          rw [this]; simp [v8, g8, hj']
        have q0 := hq (4 * t) (by omega)
        have q1 := hq (4 * t + 1) (by omega)
        have q2 := hq (4 * t + 2) (by omega)
        have q3 := hq (4 * t + 3) (by omega)
        have t0 : (4 * (t : Int)).toNat = 4 * t := by omega
        have t1 : (4 * (t : Int) + 1).toNat = 4 * t + 1 := by omega
        have t2 : (4 * (t : Int) + 2).toNat = 4 * t + 2 := by omega
        have t3 : (4 * (t : Int) + 3).toNat = 4 * t + 3 := by omega
        have HO := Lib.hid ho; have HB := Lib.hid hb
        clear ho hb hq hsl hbw
        go_wp2
        refine wp_region_plan 35 [(true, 0), (true, 1), (true, 2), (true, 3), (true, 4), (true, 5), (true, 6), (true, 7), (true, 8), (true, 9), (true, 10), (true, 11), (true, 12), (true, 13), (true, 14), (true, 15), (true, 16), (true, 17), (true, 18), (true, 19), (true, 20), (true, 21), (true, 22), (true, 23), (true, 24), (true, 25), (true, 26), (true, 27), (true, 28), (true, 29), (true, 30), (true, 31), (true, 32), (true, 33), (false, 34)]
          (fun W => W.cell? ⟨b, o + 4 * t, none⟩ = some (.int .u8 (i8 (g8 bs (4 * t)))) ∧ W.cell? ⟨b, o + (4 * t + 1), none⟩ = some (.int .u8 (i8 (g8 bs (4 * t + 1)))) ∧ W.cell? ⟨b, o + (4 * t + 2), none⟩ = some (.int .u8 (i8 (g8 bs (4 * t + 2)))) ∧ W.cell? ⟨b, o + (4 * t + 3), none⟩ = some (.int .u8 (i8 (g8 bs (4 * t + 3)))))
          (by kernel_rfl) (by kernel_rfl) (fun _ _ d _ _ h => by cases d <;> exact h) ⟨q0, q1, q2, q3⟩ ?_
        repeat (refine plan_take ?_ rfl (Or.inl ⟨rfl, ?_⟩) ?_; rotate_left; (· intro W hS; (try dsimp only at hS); go_split_ands; go_simp; (try simp (disch := omega) only [w64_in]); (try rw [if_pos (by omega)]); (try with_reducible rfl)); (try simp only [Act.put, List.setIfInBounds_toArray, List.set_cons_zero, List.set_cons_succ]))
        refine plan_loud rfl ?_
        go_wp2
        have hba : Below wr.heap.size wr ((wr.alloc (.cells #[.int .u32 (i32 (be32 bs t))] 27)).drew) := ((Below.refl _ wr).alloc (Nat.le_refl _) _).drew
        refine ⟨⟨cell_below hba q0, cell_below hba q1, cell_below hba q2, cell_below hba q3⟩, ?_⟩
        refine plan_tail ?_
        simp only [List.drop_succ_cons, List.drop_zero]
        clear q0 q1 q2 q3 t0 t1 t2 t3
        go_wp2_with ((with_reducible refine at_dst (N := 55) rfl ?_); refine wpList_app1 v32_one (w0 := (w.alloc (.cells (cs32 h.l) 28)).alloc (.cells #[.int .u32 0, .int .u32 0, .int .u32 0, .int .u32 0, .int .u32 0] 28)) (W := wr.drew) (w.heap.size + 1 + 1) rfl (.tmp 20) (.tmp 54) 44 27 (.int .u32 0) 4 rfl Try.underlying44 Try.inU32 rfl (by decide) (.slice A2 t c2) (wR bs t) (be32 bs t) rfl rfl rfl ?_ ?_ ?_ ?_ ?_; (· rw [wR_length]; exact owns_drew HO.out); (· exact HB.out.drew); (· have := HB.out.size; simp at this; simpa using this); (· rw [wR_length]; omega); intro v3 w3 ho3 hb3 hg3)
        go_roundw
        case rel => exact ⟨t + 1, by omega, by go_num, by rw [wR_low bs t h16]; exact ho3, hb3⟩
        case measure => simp [intOf]; omega
      · obtain ⟨k, rfl⟩ : ∃ k, t = k + 16 := ⟨t - 16, by omega⟩
        have hsz0 := hb.size
        obtain ⟨b2, o2, rfl, hc4⟩ := hsl.all (by rw [wR_length]; omega)
        obtain ⟨ws, hws⟩ : ∃ ws, ws = wR bs (k + 16) := ⟨_, rfl⟩
        have hwl : ws.length = k + 16 := by rw [hws, wR_length]
        rw [← hws] at ho hc4
        have hd : ∀ j, j < k + 16 → wr.cell? ⟨b2, o2 + j, none⟩ = some (.int .u32 (i32 (g32 ws j))) := fun j hj => by
          have hj' : j < ws.length := by rw [hwl]; exact hj
          rw [hc4 j ws[j] (List.getElem?_eq_getElem hj')]; simp [v32, g32, hj']
        have d0 := hd k (by omega)
        have d2 := hd (k + 2) (by omega)
        have d8 := hd (k + 8) (by omega)
        have d13 := hd (k + 13) (by omega)
        have t3 : ((k : Int) + 16 - 3).toNat = k + 13 := by omega
        have t8 : ((k : Int) + 16 - 8).toNat = k + 8 := by omega
        have t14 : ((k : Int) + 16 - 14).toNat = k + 2 := by omega
        have HO := Lib.hid ho; have HB := Lib.hid hb; have HWS := Lib.hid hws; have HWL := Lib.hid hwl
        clear ho hb hd hc4 hsl hbw hws hwl
        go_wp2
        refine wp_region_plan 26 [(true, 0), (true, 1), (true, 2), (true, 3), (true, 4), (true, 5), (true, 6), (true, 7), (true, 8), (true, 9), (true, 10), (true, 11), (true, 12), (true, 13), (true, 14), (true, 15), (true, 16), (true, 17), (true, 18), (true, 19), (true, 20), (true, 21), (true, 22), (true, 23), (false, 24), (false, 25)]
          (fun W => W.cell? ⟨b2, o2 + k, none⟩ = some (.int .u32 (i32 (g32 ws k))) ∧ W.cell? ⟨b2, o2 + (k + 2), none⟩ = some (.int .u32 (i32 (g32 ws (k + 2)))) ∧ W.cell? ⟨b2, o2 + (k + 8), none⟩ = some (.int .u32 (i32 (g32 ws (k + 8)))) ∧ W.cell? ⟨b2, o2 + (k + 13), none⟩ = some (.int .u32 (i32 (g32 ws (k + 13)))))
          (by kernel_rfl) (by kernel_rfl) (fun _ _ d _ _ h => by cases d <;> exact h) ⟨d0, d2, d8, d13⟩ ?_
        repeat (refine plan_take ?_ rfl (Or.inl ⟨rfl, ?_⟩) ?_; rotate_left; (· intro W hS; (try dsimp only at hS); go_split_ands; go_simp; (try simp (disch := omega) only [w64_in]); (try rw [if_pos (by omega)]); (try with_reducible rfl)); (try simp only [Act.put, List.setIfInBounds_toArray, List.set_cons_zero, List.set_cons_succ]))
        refine plan_loud rfl ?_
        go_wp2_with (go_at_call 18; refine (turned _ 1 (by omega) _).mono ?_; rintro e w' ⟨rfl, rfl⟩)
        refine ⟨⟨d0, d2, d8, d13⟩, ?_⟩
        refine plan_loud rfl ?_
        go_wp2
        have hba : Below wr.heap.size wr ((wr.alloc (.cells #[.int .u32 (i32 (wNext ws k))] 27)).drew) := ((Below.refl _ wr).alloc (Nat.le_refl _) _).drew
        refine ⟨⟨cell_below hba d0, cell_below hba d2, cell_below hba d8, cell_below hba d13⟩, ?_⟩
        refine plan_tail ?_
        simp only [List.drop_succ_cons, List.drop_zero]
        clear d0 d2 d8 d13 t3 t8 t14
        go_wp2_with ((with_reducible refine at_dst (N := 82) rfl ?_); refine wpList_app1 v32_one (w0 := (w.alloc (.cells (cs32 h.l) 28)).alloc (.cells #[.int .u32 0, .int .u32 0, .int .u32 0, .int .u32 0, .int .u32 0] 28)) (W := wr.drew) (w.heap.size + 1 + 1) rfl (.tmp 56) (.tmp 81) 44 27 (.int .u32 0) 4 rfl Try.underlying44 Try.inU32 rfl (by decide) (.slice (some ⟨b2, o2, none⟩) (k + 16) c2) (ws) (wNext ws k) rfl rfl rfl ?_ ?_ ?_ ?_ ?_; (· rw [HWL.out]; exact owns_drew HO.out); (· exact HB.out.drew); (· have := HB.out.size; simp at this; simpa using this); (· rw [HWL.out]; omega); intro v3 w3 ho3 hb3 hg3)
        go_roundw
        case rel => exact ⟨k + 16 + 1, by omega, by go_num, by rw [wR_high bs k, ← HWS.out]; exact ho3, hb3⟩
        case measure => simp [intOf]; omega
    · have ht80 : t = 80 := by omega
      have hszr : w.heap.size + 1 + 1 ≤ wr.heap.size := by have := hb.size; simpa using this
      have hsw : Sl v32 wr A2 (wRall bs) := by rw [ht80] at hsl; exact hsl
      obtain ⟨b2, o2, rfl, hc4⟩ := hsw.all (by rw [wRall_length]; omega)
      have hO0 : Own wr w.heap.size 28 (cs32 h.l) := (hb.block w.heap.size (by omega)).trans ((Own.newc rfl rfl).alloc _)
      have hO1 : Own wr (w.heap.size + 1) 28 (cs32 (z32 5)) := (hb.block (w.heap.size + 1) (by omega)).trans (Own.newc (by simp) rfl)
      clear ho hb hsl hsw ht hc2
      go_wp2_with (first | ((with_reducible refine at_dst (N := 83) rfl ?_); refine wpList_load_own rfl 28 _ rfl (g := w.heap.size) (t := 28) (cs := cs32 h.l) ?_ rfl Try.underlying28 rfl ?_ ?_; (· exact hO0); (· rw [Try.szH5, cs32_size, V5.l_length])) | ((with_reducible refine at_store (N := 7) rfl ?_); refine wpList_store_own rfl 28 (.tmp 7) (.tmp 83) rfl (g := wr.heap.size) (t := 28) (old := cs32 (z32 5)) ?_ (cs32 h.l) rfl rfl ?_ ?_ (cs32_one _) ?_; (· exact Own.newc rfl rfl); (· rw [Try.szH5, cs32_size, V5.l_length]); (· rw [cs32_size, cs32_size, z32_length, V5.l_length])))
      have hB : Below w.heap.size w ((wr.alloc (.cells #[.int .u32 0, .int .u32 0, .int .u32 0, .int .u32 0, .int .u32 0] 28)).setRow wr.heap.size (cs32 h.l)) := below_row (hbw.alloc (by omega) _) (by omega) _
      have hO2 : Own ((wr.alloc (.cells #[.int .u32 0, .int .u32 0, .int .u32 0, .int .u32 0, .int .u32 0] 28)).setRow wr.heap.size (cs32 h.l)) wr.heap.size 28 (cs32 (roundsR (wRall bs) h 0).l) := (Own.newc rfl rfl : Own (wr.alloc (.cells #[.int .u32 0, .int .u32 0, .int .u32 0, .int .u32 0, .int .u32 0] 28)) wr.heap.size 28 (cs32 (z32 5))).row (cs32 h.l)
      have hO0' := (hO0.alloc (.cells #[.int .u32 0, .int .u32 0, .int .u32 0, .int .u32 0, .int .u32 0] 28)).row_ne (g' := wr.heap.size) (by omega) (cs32 h.l)
      have hO1' := (hO1.alloc (.cells #[.int .u32 0, .int .u32 0, .int .u32 0, .int .u32 0, .int .u32 0] 28)).row_ne (g' := wr.heap.size) (by omega) (cs32 h.l)
      have hc5 : ∀ j, j < 80 → b2 < wr.heap.size ∧ wr.cell? ⟨b2, o2 + j, none⟩ = some (.int .u32 (i32 (g32 (wRall bs) j))) := fun j hj => by
        have hj' : j < (wRall bs).length := by rw [wRall_length]; exact hj
        have h1 := hc4 j (wRall bs)[j] (List.getElem?_eq_getElem hj')
        exact ⟨World.block_lt_of_cell? wr _ h1, by rw [h1]; simp [v32, g32, hj']⟩
      obtain ⟨wo, hwo⟩ : ∃ wo : World, wo = wr := ⟨_, rfl⟩
      obtain ⟨gv, hgv⟩ : ∃ gv, gv = wr.heap.size := ⟨_, rfl⟩
      have hgb : w.heap.size + 1 < gv := by omega
      have hc6 : ∀ j, j < 80 → ((wr.alloc (.cells #[.int .u32 0, .int .u32 0, .int .u32 0, .int .u32 0, .int .u32 0] 28)).setRow wr.heap.size (cs32 h.l)).cell? ⟨b2, o2 + j, none⟩ = some (.int .u32 (i32 (g32 (wRall bs) j))) := fun j hj => by
        rw [cell_setRow_other _ _ _ _ (by have := (hc5 j hj).1; simp; omega)]
        exact cell_below ((Below.refl _ wr).alloc (Nat.le_refl _) _) (hc5 j hj).2
      have hbv : b2 ≠ gv := by have := (hc5 0 (by omega)).1; omega
      rw [← hgv] at hB hO2 hO0' hO1' hc6 ⊢
      have HC6 := Lib.hid hc6
      clear hc5 hc4 hO0 hO1 hbw hwo hgv hc6
      (try simp only [Act.put])
      go_wp2
      go_loopw [8] (fun i wr => ∃ t : Nat, t ≤ 80 ∧ i = .int .i64 t ∧ Own wr w.heap.size 28 (cs32 h.l) ∧ Own wr (w.heap.size + 1) 28 (cs32 (z32 5)) ∧ Own wr gv 28 (cs32 (roundsR (wRall bs) h t).l) ∧ Below w.heap.size w wr ∧ Hid (∀ j, j < 80 → wr.cell? ⟨b2, o2 + j, none⟩ = some (.int .u32 (i32 (g32 (wRall bs) j)))))
        (fun i _ => 80 - (intOf i).toNat)
      case atStart => exact ⟨0, by omega, rfl, hO0', hO1', hO2, hB, HC6⟩
      case round =>
        clear hO0' hO1' hO2 hB HC6
        obtain ⟨k, hk, rfl, h0, h1, h4, hb, HC⟩ := hrel
        by_cases hlt : k < 80
        · obtain ⟨v, hv⟩ : ∃ v, v = roundsR (wRall bs) h k := ⟨_, rfl⟩
          rw [← hv] at h4
          have HV := Lib.hid hv
          clear hv
          have ca : wr.cell? ⟨gv, 0, none⟩ = some (.int .u32 (i32 v.a)) := h4.cell32 0 (by simp [V5.l])
          have cb : wr.cell? ⟨gv, 1, none⟩ = some (.int .u32 (i32 v.b)) := h4.cell32 1 (by simp [V5.l])
          have cc : wr.cell? ⟨gv, 2, none⟩ = some (.int .u32 (i32 v.c)) := h4.cell32 2 (by simp [V5.l])
          have cd : wr.cell? ⟨gv, 3, none⟩ = some (.int .u32 (i32 v.d)) := h4.cell32 3 (by simp [V5.l])
          have ce : wr.cell? ⟨gv, 4, none⟩ = some (.int .u32 (i32 v.e)) := h4.cell32 4 (by simp [V5.l])
          have cw := HC.out k (by omega)
          have H0 := Lib.hid h0; have H1 := Lib.hid h1; have H4 := Lib.hid h4; have HB := Lib.hid hb
          clear h0 h1 h4 hb
          go_wp2_with (go_at_call 19; refine (stepRef k _ _ _ (by omega) _).mono ?_; rintro e w' ⟨rfl, rfl⟩)
          refine wp_region_plan 16 [(true, 0), (true, 1), (true, 3), (true, 5), (true, 6), (true, 8), (true, 10), (true, 11), (true, 12), (true, 13), (false, 2), (true, 4), (true, 7), (true, 9), (true, 14), (true, 15)]
            (fun W => W.cell? ⟨gv, 0, none⟩ = some (.int .u32 (i32 v.a)) ∧ W.cell? ⟨gv, 4, none⟩ = some (.int .u32 (i32 v.e)) ∧ W.cell? ⟨b2, o2 + k, none⟩ = some (.int .u32 (i32 (g32 (wRall bs) k))))
            (by kernel_rfl) (by kernel_rfl) (fun _ _ d _ _ h => by cases d <;> exact h) ⟨ca, ce, cw⟩ ?_
          repeat (refine plan_take ?_ rfl (Or.inl ⟨rfl, ?_⟩) ?_; rotate_left; (· intro W hS; (try dsimp only at hS); go_split_ands; go_simp; (try simp (disch := omega) only [w64_in]); (try rw [if_pos (by omega)]); (try with_reducible rfl)); (try simp only [Act.put, List.setIfInBounds_toArray, List.set_cons_zero, List.set_cons_succ]))
          refine plan_loud rfl ?_
          go_wp2_with (go_at_call 18; refine (turned _ 5 (by omega) _).mono ?_; rintro e w' ⟨rfl, rfl⟩)
          refine ⟨⟨ca, ce, cw⟩, ?_⟩
          repeat (refine plan_take ?_ rfl (Or.inl ⟨rfl, ?_⟩) ?_; rotate_left; (· intro W hS; (try dsimp only at hS); go_split_ands; go_simp; (try simp (disch := omega) only [w64_in]); (try rw [if_pos (by omega)]); (try with_reducible rfl)); (try simp only [Act.put, List.setIfInBounds_toArray, List.set_cons_zero, List.set_cons_succ]))
          refine plan_done (by simp) ?_
          go_wp2
          refine wp_region_plan 11 [(true, 0), (true, 1), (true, 2), (true, 3), (true, 4), (true, 6), (true, 7), (true, 8), (true, 9), (false, 5), (true, 10)]
            (fun W => W.cell? ⟨gv, 0, none⟩ = some (.int .u32 (i32 v.a)) ∧ W.cell? ⟨gv, 1, none⟩ = some (.int .u32 (i32 v.b)) ∧ W.cell? ⟨gv, 2, none⟩ = some (.int .u32 (i32 v.c)) ∧ W.cell? ⟨gv, 3, none⟩ = some (.int .u32 (i32 v.d)))
            (by kernel_rfl) (by kernel_rfl) (fun _ _ d _ _ h => by cases d <;> exact h) ⟨ca, cb, cc, cd⟩ ?_
          repeat (refine plan_take ?_ rfl (Or.inl ⟨rfl, ?_⟩) ?_; rotate_left; (· intro W hS; (try dsimp only at hS); go_split_ands; go_simp; (try simp (disch := omega) only [w64_in]); (try rw [if_pos (by omega)]); (try with_reducible rfl)); (try simp only [Act.put, List.setIfInBounds_toArray, List.set_cons_zero, List.set_cons_succ]))
          refine plan_loud rfl ?_
          go_wp2_with (go_at_call 18; refine (turned _ 30 (by omega) _).mono ?_; rintro e w' ⟨rfl, rfl⟩)
          refine ⟨⟨ca, cb, cc, cd⟩, ?_⟩
          repeat (refine plan_take ?_ rfl (Or.inl ⟨rfl, ?_⟩) ?_; rotate_left; (· intro W hS; (try dsimp only at hS); go_split_ands; go_simp; (try simp (disch := omega) only [w64_in]); (try rw [if_pos (by omega)]); (try with_reducible rfl)); (try simp only [Act.put, List.setIfInBounds_toArray, List.set_cons_zero, List.set_cons_succ]))
          refine plan_tail ?_
          simp only [List.drop_succ_cons, List.drop_zero]
          clear ca cb cc cd ce cw
          go_wp2_with ((with_reducible refine at_store (N := 7) rfl ?_); refine wpList_store_own rfl 28 (.tmp 7) (.tmp 124) rfl (g := gv) (t := 28) (old := cs32 v.l) ?_ (cs32 (stepR (wRall bs) k v).l) rfl rfl ?_ ?_ (cs32_one _) ?_; (· exact H4.out); (· rw [Try.szH5, cs32_size, V5.l_length]); (· rw [cs32_size, cs32_size, V5.l_length, V5.l_length]))
          go_roundw
          case rel =>
            exact ⟨k + 1, by omega, by go_num, H0.out.row_ne (by omega) _, H1.out.row_ne (by omega) _, (by rw [show roundsR (wRall bs) h (k + 1) = stepR (wRall bs) k v from by rw [HV.out]; rfl]; exact H4.out.row _), below_row HB.out.drew.drew (by omega) _, fun j hj => by rw [cell_setRow_other _ _ _ _ hbv]; exact HC.out j hj⟩
          case measure => simp [intOf]; omega
        · have h4' : Own wr gv 28 (cs32 (addK (roundsR (wRall bs) h 80).l h.l 0)) := by
            have : k = 80 := by omega
            subst this; exact h4
          clear h4 HC
          obtain ⟨r, hr⟩ : ∃ r, r = roundsR (wRall bs) h 80 := ⟨_, rfl⟩
          rw [← hr] at h4'
          have HR := Lib.hid hr
          clear hr
          go_wp2
          clear hk hlt
          go_loopw [12] (fun i wr => ∃ k : Nat, k ≤ 5 ∧ i = .int .i64 k ∧ Own wr w.heap.size 28 (cs32 h.l) ∧ Own wr (w.heap.size + 1) 28 (cs32 (z32 5)) ∧ Own wr gv 28 (cs32 (addK r.l h.l k)) ∧ Below w.heap.size w wr)
            (fun i _ => 5 - (intOf i).toNat)
          case atStart => exact ⟨0, by omega, rfl, h0, h1, h4', hb⟩
          case round =>
            clear h0 h1 h4' hb
            obtain ⟨k, hk, rfl, h0, h1, h4, hb⟩ := hrel
            by_cases hlt : k < 5
            · have c1 := h4.cell32 k (by rw [addK_length]; exact hlt)
              have c2 := h0.cell32 k hlt
              have f1 := h4.frozen k
              have hki : (k : Int) < 5 := by omega
              have H0 := Lib.hid h0; have H1 := Lib.hid h1; have H4 := Lib.hid h4; have HB := Lib.hid hb
              clear h0 h1 h4 hb
              go_wp2
              refine wp_region_plan 9 [(true, 0), (true, 1), (true, 2), (true, 3), (true, 4), (true, 5), (true, 6), (true, 7), (true, 8)]
                (fun W => W.cell? ⟨gv, k, none⟩ = some (.int .u32 (i32 (g32 (addK r.l h.l k) k))) ∧ W.cell? ⟨w.heap.size, k, none⟩ = some (.int .u32 (i32 (g32 h.l k))))
                (by kernel_rfl) (by kernel_rfl) (fun _ _ d _ _ h => by cases d <;> exact h) ⟨c1, c2⟩ ?_
              repeat (refine plan_take ?_ rfl (Or.inl ⟨rfl, ?_⟩) ?_; rotate_left; (· intro W hS; (try dsimp only at hS); go_split_ands; go_simp; (try simp (disch := omega) only [w64_in]); (try rw [if_pos (by omega)]); (try with_reducible rfl)); (try simp only [Act.put, List.setIfInBounds_toArray, List.set_cons_zero, List.set_cons_succ]))
              refine plan_tail ?_
              simp only [List.drop_succ_cons, List.drop_zero]
              go_wp2
              go_roundw
              case rel => exact ⟨k + 1, by omega, by go_num, H0.out.set_ne (by omega) _ _, H1.out.set_ne (by omega) _ _, H4.out.set32 _ _, (HB.out.setCell (by simp; omega) _).drew⟩
              case measure => simp [intOf]; omega
            · have h5 : Own wr gv 28 (cs32 (blockR h bs).l) := by
                have : k = 5 := by omega
                subst this
                rw [blockR, ← HR.out, ← addK_all]; exact h4
              go_wp2_with (first | ((with_reducible refine at_dst (N := 138) rfl ?_); refine wpList_load_own rfl 28 _ rfl (g := gv) (t := 28) (cs := cs32 (blockR h bs).l) ?_ rfl Try.underlying28 rfl ?_ ?_; (· exact h5); (· rw [Try.szH5, cs32_size, V5.l_length])) | ((with_reducible refine at_store (N := 4) rfl ?_); refine wpList_store_own rfl 28 (.tmp 4) (.tmp 138) rfl (g := w.heap.size + 1) (t := 28) (old := cs32 (z32 5)) ?_ (cs32 (blockR h bs).l) rfl rfl ?_ ?_ (cs32_one _) ?_; (· exact h1); (· rw [Try.szH5, cs32_size, V5.l_length]); (· rw [cs32_size, cs32_size, z32_length, V5.l_length])))
              refine bodyPost_ret (results_own rfl _ (h1.row _) rfl Try.underlying28 rfl (by rw [Try.szH5, cs32_size, V5.l_length])) rfl ?_
              exact ⟨rfl, below_row hb (by omega) _⟩
end Go.Proofs.Ytdddalcjcgeocaa
