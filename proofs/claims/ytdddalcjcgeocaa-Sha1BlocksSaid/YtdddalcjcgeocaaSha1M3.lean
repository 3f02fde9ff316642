/- SHA-1's statements, walked: block by block. -/
import Derived.Test.YtdddalcjcgeocaaSha1A
import Derived.Test.YtdddalcjcgeocaaFlo
namespace Go.Proofs.Ytdddalcjcgeocaa
open Go.RowKit
set_option linter.unusedVariables false
set_option linter.unusedSimpArgs false
attribute [local go_sem] i32_or i32_and i32_xor i32_wrap i32_add i32_of8 i8_of32 i8_of64 i64_wrap
attribute [local go_sem ↓ high] i32_shl i32_shr i64_shr
theorem Try.zB64 (w : World) : Sem.run Try.prog (zeroValue 29) w = .ok (.agg (cs8 (z8 64))) w := by kernel_rfl
/-- The padding behind one block. -/
def padL : List U8 := ((z8 64).set 0 128).set 62 2
theorem padL_length : padL.length = 64 := by simp [padL, z8_length]
theorem padL_cs : ((cs8 (z8 64)).setIfInBounds 0 (.int .u8 128)).setIfInBounds 62 (.int .u8 2) = cs8 padL := by
  rw [show (Value.int .u8 128) = .int .u8 (i8 128) from rfl, show (Value.int .u8 2) = .int .u8 (i8 2) from rfl, cs8_set, cs8_set]; rfl
theorem outK_get (l : List U32) (k i : Nat) (hk : k ≤ 20) (hi : i < k) : g8 (outK l k) i = outF l i := by
  induction k with
  | zero => omega
  | succ k ih =>
    have e : g8 (outK l (k + 1)) i = if k = i then outF l k else g8 (outK l k) i := by
      have hl := outK_length l k
      unfold g8
      rw [outK, List.getD_eq_getElem?_getD, List.getD_eq_getElem?_getD, List.getElem?_set]
      by_cases h : k = i
      · subst h; rw [if_pos rfl, if_pos rfl, if_pos (by omega)]; rfl
      · rw [if_neg h, if_neg h]
    rw [e]
    by_cases h : k = i
    · rw [if_pos h, h]
    · rw [if_neg h]; exact ih (by omega) (by omega)
theorem hashF_one (bs : List U8) (hl : bs.length = 64) : hashF bs = blockF (blockF startF bs) padL := by
  have hp : padF bs = bs ++ padL := by
    rw [padF, hl, show zc (64 + 1) = 55 from rfl, List.append_assoc, List.append_assoc]
    congr 1
  have h2 : (padF bs).length / 64 = 2 := by rw [hp, List.length_append, hl, padL_length]
  rw [hashF, h2, hp, blocksF, blocksF, blocksF]
  have e1 : (bs ++ padL).take 64 = bs := by rw [← hl]; simp
  have e2 : (bs ++ padL).drop 64 = padL := by rw [← hl]; simp
  rw [e1, e2, List.take_of_length_le (by rw [padL_length]; omega)]
set_option maxRecDepth 100000 in
set_option maxHeartbeats 4000000 in
theorem lawBlocks (bs : List U8) (hl : bs.length = 64) (w : World) :
    Calls Try.prog 5 #[.agg (cs8 bs)] w fun e w' => e = .returned (.bool true) ∧ Below w.heap.size w w' := by
  have hz := Try.zB64
  have hs64 : (cs8 (z8 64)).size = 64 := by rw [cs8_size, z8_length]
  have hpad := padL_cs
  go_enter Try.func5, Try.ntmps5
  go_wp2_with ((with_reducible refine at_store (N := 3) rfl ?_); refine wpList_store_own rfl 29 (.tmp 3) (.tmp 7) rfl (g := w.heap.size + 1) (t := 29) (old := cs8 (z8 64)) ?_ (cs8 padL) rfl rfl ?_ ?_ (cs8_one _) ?_; (· exact Own.newc (by simp) rfl); (· rw [Try.szB64, cs8_size, padL_length]); (· rw [cs8_size, cs8_size, padL_length, z8_length]))
  clear hz hs64 hpad
  obtain ⟨hA, eA⟩ : ∃ hA, hA = blockF (blockF startF bs) padL := ⟨_, rfl⟩
  have hblk : ∀ W, Calls Try.prog 10 #[.agg (cs32 (blockF startF bs).l), .agg (cs8 padL)] W fun e w' => e = .returned (.agg (cs32 hA.l)) ∧ Below W.heap.size W w' := fun W => by rw [eA]; exact block (blockF startF bs) padL padL_length W
  have EA := Lib.hid eA
  clear eA
  have S0 : (fun W => Own W w.heap.size 29 (cs8 bs) ∧ Own W (w.heap.size + 1) 29 (cs8 padL) ∧ Below w.heap.size w W) (((w.alloc (.cells (cs8 bs) 29)).alloc (.cells (cs8 (z8 64)) 29)).setRow (w.heap.size + 1) (cs8 padL)).drew := ⟨((Own.newc rfl rfl : Own (w.alloc (.cells (cs8 bs) 29)) _ _ (cs8 bs)).alloc _).row_ne (by omega) _, (Own.newc (by simp) rfl : Own _ _ _ (cs8 (z8 64))).row _, (below_row (((Below.refl _ w).alloc (Nat.le_refl _) _).alloc (by simp) _) (by omega) _).drew⟩
  have hst : ∀ W W', (Own W w.heap.size 29 (cs8 bs) ∧ Own W (w.heap.size + 1) 29 (cs8 padL) ∧ Below w.heap.size w W) → Below W.heap.size W W' → (Own W' w.heap.size 29 (cs8 bs) ∧ Own W' (w.heap.size + 1) 29 (cs8 padL) ∧ Below w.heap.size w W') := fun W W' ⟨h1, h2, h3⟩ hb => ⟨h1.below hb, h2.below hb, h3.trans (hb.mono h3.size)⟩
  refine wp_region_flo 6 [(true, 1), (true, 3), (false, 0), (false, 2), (false, 4)] [⟨5, 4, 28, cs32 (z32 5)⟩]
    (fun W => Own W w.heap.size 29 (cs8 bs) ∧ Own W (w.heap.size + 1) 29 (cs8 padL) ∧ Below w.heap.size w W)
    (by kernel_rfl) (by kernel_rfl) (fun _ _ d _ _ h => by cases d <;> exact h) (fun _ _ d _ _ h => by cases d <;> exact h) ⟨fun ρ w => exec_alloc rfl Try.zH5 ρ w, trivial⟩ hst S0 ?_
  refine flo_take _ rfl (yieldsIf_load_own rfl 29 _ rfl w.heap.size rfl 29 (cs8 bs) _ (fun W h => h.1) Try.underlying29 rfl (by rw [Try.szB64, cs8_size, hl])) ?_
  (try simp only [Act.put, List.setIfInBounds_toArray, List.set_cons_zero, List.set_cons_succ])
  refine flo_take _ rfl (yieldsIf_load_own rfl 29 _ rfl (w.heap.size + 1) rfl 29 (cs8 padL) _ (fun W h => h.2.1) Try.underlying29 rfl (by rw [Try.szB64, cs8_size, padL_length])) ?_
  (try simp only [Act.put, List.setIfInBounds_toArray, List.set_cons_zero, List.set_cons_succ])
  refine flo_loud (.agg (cs32 startF.l)) rfl (fun W hW => ?_) ?_
  · go_wp2_with (go_at_call 12; refine (start _).mono ?_; rintro e w1 ⟨rfl, hb1⟩)
    exact ⟨rfl, hb1⟩
  (try simp only [Act.put, List.setIfInBounds_toArray, List.set_cons_zero, List.set_cons_succ])
  refine flo_loud (.agg (cs32 (blockF startF bs).l)) rfl (fun W hW => ?_) ?_
  · go_wp2_with (go_at_call 10; refine (block startF bs hl _).mono ?_; rintro e w1 ⟨rfl, hb1⟩)
    exact ⟨rfl, hb1⟩
  (try simp only [Act.put, List.setIfInBounds_toArray, List.set_cons_zero, List.set_cons_succ])
  refine flo_loud (.agg (cs32 hA.l)) rfl (fun W hW => ?_) ?_
  · go_wp2_with (go_at_call 10; refine (hblk _).mono ?_; rintro e w1 ⟨rfl, hb1⟩)
    exact ⟨rfl, hb1⟩
  (try simp only [Act.put, List.setIfInBounds_toArray, List.set_cons_zero, List.set_cons_succ])
  intro G hGB _ w2 S2 hO
  have hO1 := hO _ (List.mem_cons_self ..)
  have hG1 := hGB _ (List.mem_cons_self ..)
  clear hO hGB S0 hst
  obtain ⟨gh, hgh⟩ : ∃ gh, gh = G 5 := ⟨_, rfl⟩
  dsimp only at hO1 hG1
  rw [← hgh] at hO1 hG1
  simp only [List.drop_succ_cons, List.drop_zero, putFlo, ptrTo, ← hgh]
  simp only [Act.put, List.setIfInBounds_toArray, List.set_cons_zero, List.set_cons_succ]
  have hsum : ∀ W, Sl v8 W (some ⟨w.heap.size, 0, none⟩) bs → Calls Try.prog 8 #[.slice (some ⟨w.heap.size, 0, none⟩) 64 64] W fun e w' => e = .returned (.agg (cs8 (sumF bs))) ∧ Below W.heap.size W w' := fun W h => by
    have := sum bs _ 64 (by omega) W h
    rwa [hl] at this
  have hz20 := Try.zS20
  obtain ⟨B1, B2, B3⟩ := S2
  simp only [World.size_alloc, World.setRow, Array.size_modify] at hG1
  have hB3 := B3.size
  have B1' : Own (w2.setRow gh (cs32 hA.l)) w.heap.size 29 (cs8 bs) := B1.row_ne (by omega) _
  have hs1 := own_sl8 B1' (by omega)
  have hH : Own (w2.setRow gh (cs32 hA.l)) gh 28 (cs32 hA.l) := hO1.row _
  have hBw : Below w.heap.size w (w2.setRow gh (cs32 hA.l)) := below_row B3 (by omega) _
  have HL := Lib.hid hl
  clear B1 B2 B3 B1' hl hgh
  go_wp2_with (first | ((with_reducible refine at_store (N := 4) rfl ?_); refine wpList_store_own rfl 28 (.tmp 4) (.tmp 12) rfl (g := gh) (t := 28) (old := cs32 (z32 5)) ?_ (cs32 hA.l) rfl rfl ?_ ?_ (cs32_one _) ?_; (· exact hO1); (· rw [Try.szH5, cs32_size, V5.l_length]); (· rw [cs32_size, cs32_size, z32_length, V5.l_length])) | (go_at_call 8; refine (hsum _ hs1).mono ?_; rintro e w4 ⟨rfl, hb4⟩) | ((with_reducible refine at_store (N := 5) rfl ?_); refine wpList_store_own rfl 24 (.tmp 5) (.tmp 14) rfl (g := w4.heap.size) (t := 24) (old := cs8 (z8 20)) ?_ (cs8 (sumF bs)) rfl rfl ?_ ?_ (cs8_one _) ?_; (· exact Own.newc rfl rfl); (· rw [Try.szS20, cs8_size, sumF_length]); (· rw [cs8_size, cs8_size, z8_length, sumF_length])))
  have hz4 := hb4.size
  simp only [World.setRow, Array.size_modify] at hz4
  obtain ⟨gs, hgs⟩ : ∃ gs, gs = w4.heap.size := ⟨_, rfl⟩
  have hgh2 := hO1.lt
  have hI1 : Own ((w4.alloc (.cells (cs8 (z8 20)) 24)).setRow w4.heap.size (cs8 (sumF bs))) gh 28 (cs32 hA.l) := ((hH.below hb4).alloc _).row_ne (by omega) _
  have hI2 : Own ((w4.alloc (.cells (cs8 (z8 20)) 24)).setRow w4.heap.size (cs8 (sumF bs))) w4.heap.size 24 (cs8 (sumF bs)) := (Own.newc rfl rfl : Own _ _ _ (cs8 (z8 20))).row _
  have hI3 : Below w.heap.size w ((w4.alloc (.cells (cs8 (z8 20)) 24)).setRow w4.heap.size (cs8 (sumF bs))) := below_row ((hBw.trans (hb4.mono hBw.size)).alloc (by omega) _) (by omega) _
  rw [← hgs] at hI1 hI2 hI3 ⊢
  clear hO1 hH hBw hb4 hs1 hsum hz20 hblk hgs hz4 hgh2 hG1 hB3
  (try simp only [Act.put])
  go_loopw [6] (fun i wr => ∃ k : Nat, k ≤ 20 ∧ i = .int .i64 k ∧ Own wr gh 28 (cs32 hA.l) ∧ Own wr gs 24 (cs8 (sumF bs)) ∧ Below w.heap.size w wr)
    (fun i _ => 20 - (intOf i).toNat)
  case atStart => exact ⟨0, by omega, rfl, hI1, hI2, hI3⟩
  case round =>
    clear hI1 hI2 hI3
    obtain ⟨k, hk, rfl, h5, hq, hb⟩ := hrel
    by_cases hlt : k < 20
    · have c5 := h5.cell32 (k / 4) (by rw [V5.l_length]; omega)
      have c1 := hq.cell8 k (by rw [sumF_length]; omega)
      have hv : g8 (sumF bs) k = (g32 hA.l (k / 4) >>> (24 - 8 * (k % 4))).setWidth 8 := by
        rw [sumF, outK_get _ 20 k (by omega) hlt, hashF_one bs HL.out, ← EA.out]; rfl
      rw [hv] at c1
      have hsh : (24 - 8 * ((k : Int) % 4)).toNat = 24 - 8 * (k % 4) := by omega
      have hge : 0 ≤ 24 - 8 * ((k : Int) % 4) := by omega
      have q0 : ((k : Int).tdiv 4) = ((k / 4 : Nat) : Int) := by rw [Int.tdiv_eq_ediv_of_nonneg (by omega)]; omega
      have t0 : ((k : Int) / 4).toNat = k / 4 := by omega
      have r0 : ((k : Int).tmod 4) = (k : Int) % 4 := Int.tmod_eq_emod_of_nonneg (by omega)
      have x1 : IntKind.i64.wrap (8 * ((k : Int) % 4)) = 8 * ((k : Int) % 4) := IntWalk.i64_in _ (by omega)
      have x2 : IntKind.i64.wrap (24 - 8 * ((k : Int) % 4)) = 24 - 8 * ((k : Int) % 4) := IntWalk.i64_in _ (by omega)
      have x3 : IntKind.u64.wrap (24 - 8 * ((k : Int) % 4)) = 24 - 8 * ((k : Int) % 4) := by rw [IntKind.wrap_u64]; omega
      have hle : 24 - 8 * ((k : Int) % 4) ≤ 32 := by omega
      have hne : (i8 (BitVec.setWidth 8 (g32 hA.l (k / 4) >>> (24 - 8 * (k % 4)))) != IntKind.u8.wrap (i32 (g32 hA.l (k / 4)) / 2 ^ (24 - 8 * (k % 4)))) = false := by rw [i32_shr', i8_of32]; simp
      have HB := Lib.hid hb; have H5 := Lib.hid h5; have HQ := Lib.hid hq
      clear hv hb h5 hq
      go_wp2
      refine wp_region_plan 15 [(true, 0), (true, 1), (true, 2), (true, 3), (true, 4), (true, 5), (true, 6), (true, 7), (true, 8), (true, 9), (true, 10), (true, 11), (true, 12), (true, 13), (true, 14)]
        (fun W => W.cell? ⟨gs, k, none⟩ = some (.int .u8 (i8 ((g32 hA.l (k / 4) >>> (24 - 8 * (k % 4))).setWidth 8))) ∧ W.cell? ⟨gh, k / 4, none⟩ = some (.int .u32 (i32 (g32 hA.l (k / 4)))))
        (by kernel_rfl) (by kernel_rfl) (fun _ _ d _ _ h => by cases d <;> exact h) ⟨c1, c5⟩ ?_
      repeat (refine plan_take ?_ rfl (Or.inl ⟨rfl, ?_⟩) ?_; rotate_left; (· intro W hS; (try dsimp only at hS); go_split_ands; go_simp; (try simp (disch := omega) only [w64_in]); (try rw [if_pos (by omega)]); (try with_reducible rfl)); (try simp only [Act.put, List.setIfInBounds_toArray, List.set_cons_zero, List.set_cons_succ]))
      refine plan_done (by simp) ?_
      clear r0 x1 x2 x3 hsh q0 t0 hge hle c1 c5
      go_wp2
      go_roundw
      case rel => exact ⟨k + 1, by omega, by go_num, H5.out, HQ.out, HB.out.drew⟩
      case measure => simp [intOf]; omega
    · go_wp2_with (go_at_call 7; refine (alive _).mono ?_; rintro e w5 ⟨rfl, hb5⟩)
      go_ret
      exact ⟨rfl, hb.trans (hb5.mono hb.size)⟩
end Go.Proofs.Ytdddalcjcgeocaa
