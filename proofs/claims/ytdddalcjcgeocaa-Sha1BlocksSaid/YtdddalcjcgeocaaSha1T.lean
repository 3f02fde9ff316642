/- The document's SHA-1 sum, walked. -/
import Derived.Test.YtdddalcjcgeocaaSha1Q
import Derived.Test.YtdddalcjcgeocaaSha1R
namespace Go.Proofs.Ytdddalcjcgeocaa
open Go.RowKit
set_option linter.unusedVariables false
set_option linter.unusedSimpArgs false
attribute [local go_sem] i32_or i32_and i32_xor i32_wrap i32_add i32_of8 i8_of32 i8_of64 i64_wrap
attribute [local go_sem ↓ high] i32_shl i32_shr i64_shr
theorem hashR_step (n : Nat) (h : V5) (p : List U8) : blocksR (n + 1) h p = blocksR n (blockR h (p.take 64)) (p.drop 64) := rfl
set_option maxRecDepth 100000 in
set_option maxHeartbeats 2000000 in
theorem sumRef (bs : List U8) (A : Option Addr) (c : Nat) (hbl : bs.length ≤ 1000000) (w : World) (hbs : Sl v8 w A bs) :
    Calls Try.prog 9 #[.slice A bs.length c] w fun e w' => e = .returned (.agg (cs8 (sumR bs))) ∧ Below w.heap.size w w' := by
  have hz := Try.zS20
  have hz5 := Try.zH5
  go_enter Try.func9, Try.ntmps9
  go_wp2_with (first | (go_at_call 13; refine (startRef _).mono ?_; rintro e w1 ⟨rfl, hb1⟩) | ((with_reducible refine at_store (N := 3) rfl ?_); refine wpList_store_own rfl 28 (.tmp 3) (.tmp 8) rfl (g := w1.heap.size) (t := 28) (old := cs32 (z32 5)) ?_ (cs32 startF.l) rfl rfl ?_ ?_ (cs32_one _) ?_; (· exact Own.newc rfl rfl); (· rw [Try.szH5]; rfl); (· rfl)) | (go_at_call 14; refine (padded64 bs A c hbl _ ?_).mono ?_; (· exact hbs.below (below_row (((((Below.refl _ w).alloc (Nat.le_refl _) (.cells (cs8 (z8 20)) 24)).trans (hb1.mono (by simp)))).alloc (by have := hb1.size; simp at this; omega) (.cells #[.int .u32 0, .int .u32 0, .int .u32 0, .int .u32 0, .int .u32 0] 28)) (by have := hb1.size; simp at this; omega) _)); rintro e w2 ⟨A1, c1, rfl, hc1, hs1, hb2⟩))
  have hs1z := hb1.size
  simp only [World.size_alloc] at hs1z
  have hB1 : Below w.heap.size w ((w1.alloc (.cells #[.int .u32 0, .int .u32 0, .int .u32 0, .int .u32 0, .int .u32 0] 28)).setRow w1.heap.size (cs32 startF.l)) := below_row (((((Below.refl _ w).alloc (Nat.le_refl _) (.cells (cs8 (z8 20)) 24)).trans (hb1.mono (by simp)))).alloc (by omega) _) (by omega) _
  have hB : Below w.heap.size w w2 := hB1.trans (hb2.mono (by simp; omega))
  have hR0 : Own w2 w.heap.size 24 (cs8 (z8 20)) := Own.below (((Own.below (Own.newc rfl rfl) hb1).alloc _).row_ne (by omega) _) hb2
  obtain ⟨gh, hgh⟩ : ∃ gh, gh = w1.heap.size := ⟨_, rfl⟩
  have hOh : Own w2 gh 28 (cs32 startF.l) := Own.below (by rw [hgh]; exact (Own.newc rfl rfl : Own _ _ _ (cs32 (z32 5))).row _) hb2
  have hghB : w.heap.size + 1 ≤ gh := by omega
  have hp64 : (padG64 bs).length = 64 * ((padF bs).length / 64) := by rw [padG_F]; exact padF_length bs
  obtain ⟨N, hN⟩ : ∃ N, N = (padF bs).length / 64 := ⟨_, rfl⟩
  have hfin : blocksR N startF (padG64 bs) = hashR bs := by rw [hN, padG_F]; rfl
  rw [← hN] at hp64
  obtain ⟨q, hq⟩ : ∃ q, q = padG64 bs := ⟨_, rfl⟩
  have hqle : q.length ≤ 1000100 := by rw [hq]; have := padG64_length_le bs; omega
  rw [← hq] at hfin hp64 hs1 hc1 ⊢
  obtain ⟨l, hlq⟩ : ∃ l, l = q.length := ⟨_, rfl⟩
  rw [← hlq] at hqle hp64 hc1 ⊢
  rw [← hgh]
  have HF := Lib.hid hfin; have HL := Lib.hid hlq; have HS := Lib.hid hs1; have HP := Lib.hid hp64
  clear hfin hlq hs1 hq hb1 hb2 hB1 hgh hN hp64
  go_wp2
  go_loopw [5] (fun i wr => ∃ (n k : Nat) (v : V5), i = .int .i64 (64 * (k : Int)) ∧ k + n = N ∧ Sl v8 wr A1 q ∧ Own wr gh 28 (cs32 v.l) ∧ Own wr w.heap.size 24 (cs8 (z8 20)) ∧ Below w.heap.size w wr ∧ Hid (blocksR n v (q.drop (64 * k)) = hashR bs))
    (fun i _ => (l - intOf i).toNat)
  case atStart => exact ⟨N, 0, startF, by simp, by omega, HS.out, hOh, hR0, hB, HF⟩
  case round =>
    clear hOh hR0 hB
    obtain ⟨n, k, v, rfl, hkn, hsq, hOv, hR, hb, HQ⟩ := hrel
    have hl64 := HP.out
    cases n with
    | zero =>
      have hend : ¬ 64 * (k : Int) < (l : Int) := by omega
      have hOh : Own wr gh 28 (cs32 (hashR bs).l) := by
        have h1 := HQ.out
        rw [← h1]; exact hOv
      have hghlt := hOh.lt
      clear hOv HQ hsq
      have hz := Try.zS20
      have hB := Lib.hid hb
      obtain ⟨wo, rfl⟩ : ∃ wo : World, wo = wr := ⟨_, rfl⟩
      clear hb
      go_wp2_with ((with_reducible refine at_store (N := 6) rfl ?_); refine wpList_store_own rfl 24 (.tmp 6) (.tmp 24) rfl (g := wo.heap.size) (t := 24) (old := cs8 (z8 20)) ?_ (cs8 (z8 20)) rfl rfl ?_ ?_ (cs8_one _) ?_; (· exact Own.newc rfl rfl); (· rw [Try.szS20, cs8_size, z8_length]); (· rfl))
      have hb := hB.out
      clear hB
      (try simp only [Act.put])
      go_wp2
      go_loopw [7] (fun i wr => ∃ k : Nat, k ≤ 20 ∧ i = .int .i64 k ∧ Own wr gh 28 (cs32 (hashR bs).l) ∧ Own wr wo.heap.size 24 (cs8 (outK (hashR bs).l k)) ∧ Own wr w.heap.size 24 (cs8 (z8 20)) ∧ Below w.heap.size w wr)
        (fun i _ => 20 - (intOf i).toNat)
      case atStart =>
        have := hb.size
        exact ⟨0, by omega, rfl, (hOh.alloc _).row_ne (by omega) _, (Own.newc rfl rfl : Own _ _ _ (cs8 (z8 20))).row _, (hR.alloc _).row_ne (by have := hR.lt; omega) _, below_row (hb.alloc (by omega) _) (by omega) _⟩
      case round =>
        have hszo := hb.size
        clear hOh hR hb
        obtain ⟨k, hk, rfl, h5, hq, hr, hb⟩ := hrel
        by_cases hlt : k < 20
        · have c5 := h5.cell32 (k / 4) (by rw [V5.l_length]; omega)
          have f1 := hq.frozen k
          have c1 := hq.cell8 k (by rw [outK_length]; omega)
          have hsh : (24 - 8 * ((k : Int) % 4)).toNat = 24 - 8 * (k % 4) := by omega
          have hge : 0 ≤ 24 - 8 * ((k : Int) % 4) := by omega
          have hRw := hr.lt
          have H5 := Lib.hid h5; have HQ2 := Lib.hid hq; have HR := Lib.hid hr; have HB2 := Lib.hid hb
          clear h5 hq hr hb
          go_wp2
          go_roundw
          case rel => exact ⟨k + 1, by omega, by go_num, H5.out.set_ne (by omega) _ _, HQ2.out.set8' k (outF (hashR bs).l k) (v8_shr32 _ _), HR.out.set_ne (by omega) _ _, HB2.out.setCell (by simp; omega) _⟩
          case measure => simp [intOf]; omega
        · have hq2 : Own wr wo.heap.size 24 (cs8 (sumR bs)) := by
            have : k = 20 := by omega
            subst this; exact hq
          go_wp2_with (first | ((with_reducible refine at_dst (N := 42) rfl ?_); refine wpList_load_own rfl 24 _ rfl (g := wo.heap.size) (t := 24) (cs := cs8 (sumR bs)) ?_ rfl Try.underlying24 rfl ?_ ?_; (· exact hq2); (· rw [Try.szS20, cs8_size, sumR_length])) | ((with_reducible refine at_store (N := 2) rfl ?_); refine wpList_store_own rfl 24 (.tmp 2) (.tmp 42) rfl (g := w.heap.size) (t := 24) (old := cs8 (z8 20)) ?_ (cs8 (sumR bs)) rfl rfl ?_ ?_ (cs8_one _) ?_; (· exact hr); (· rw [Try.szS20, cs8_size, sumR_length]); (· rw [cs8_size, cs8_size, z8_length, sumR_length])))
          refine bodyPost_ret (results_own rfl _ (hr.row _) rfl Try.underlying24 rfl (by rw [Try.szS20, cs8_size, sumR_length])) rfl ?_
          exact ⟨rfl, below_row hb (Nat.le_refl _) _⟩
    | succ n =>
      have hlt : 64 * (k : Int) < (l : Int) := by omega
      have hle : 64 * k + 64 ≤ l := by omega
      obtain ⟨A4, hs4, hrun4⟩ := run_slice_mid (P := Try.prog) hsq 22 5 c1 (64 * k) (64 * k + 64) .i64 .i64 (64 * (k : Int)) (64 * (k : Int) + 64) (by omega) (by omega) Try.underlying22 Try.szU8 (by omega) (by rw [← HL.out]; omega) (by rw [← HL.out]; exact hc1)
      rw [← HL.out, Nat.add_sub_cancel_left] at hrun4
      rw [Nat.add_sub_cancel_left] at hs4
      have hq6l : ((q.drop (64 * k)).take 64).length = 64 := by rw [List.length_take, List.length_drop, ← HL.out]; omega
      obtain ⟨q6, hq6⟩ : ∃ q6, q6 = (q.drop (64 * k)).take 64 := ⟨_, rfl⟩
      rw [← hq6] at hs4 hq6l
      have hwr : IntKind.i64.wrap (64 * (k : Int) + 64) = 64 * (k : Int) + 64 := IntWalk.i64_in _ (by omega)
      have HS4 := Lib.hid hs4; have HSQ := Lib.hid hsq; have HR := Lib.hid hR; have HB := Lib.hid hb; have HQ6 := Lib.hid hq6; have HQL6 := Lib.hid hq6l; have HKN := Lib.hid hkn
      have HOV := Lib.hid hOv
      clear hs4 hsq hR hb hq6 hq6l hkn hl64
      go_wp2
      refine wp_region_plan 7 [(true, 0), (true, 1), (true, 2), (true, 3), (true, 4), (true, 5), (false, 6)]
        (fun W => Own W gh 28 (cs32 v.l))
        (by kernel_rfl) (by kernel_rfl) (fun _ _ d _ _ h => by cases d <;> exact h) hOv ?_
      refine plan_take _ rfl (yieldsIf_load_own rfl 28 _ rfl gh rfl 28 (cs32 v.l) _ (fun W h => h) Try.underlying28 rfl (by rw [Try.szH5]; rfl)) ?_
      (try simp only [Act.put, List.setIfInBounds_toArray, List.set_cons_zero, List.set_cons_succ])
      repeat (refine plan_take ?_ rfl (Or.inl ⟨rfl, ?_⟩) ?_; rotate_left; (· intro W hS; (try dsimp only at hS); go_split_ands; go_simp; (try simp (disch := omega) only [w64_in]); (try rw [if_pos (by omega)]); (try with_reducible rfl)); (try simp only [Act.put, List.setIfInBounds_toArray, List.set_cons_zero, List.set_cons_succ]))
      refine plan_loud rfl ?_
      clear hwr hrun4
      go_wp2_with (go_at_call 11; refine (blockRef v q6 A4 _ HQL6.out _ ?_).mono ?_; (· exact HS4.out.below (Below.refl _ wr).drew); rintro e w7 ⟨rfl, hb7⟩)
      have hb8 : Below wr.heap.size wr w7 := (Below.refl _ wr).drew.trans hb7
      refine ⟨HOV.out.below hb8, ?_⟩
      refine plan_tail ?_
      simp only [List.drop_succ_cons, List.drop_zero]
      go_wp2_with ((with_reducible refine at_store (N := 3) rfl ?_); refine wpList_store_own rfl 28 (.tmp 3) (.tmp 23) rfl (g := gh) (t := 28) (old := cs32 v.l) ?_ (cs32 (blockR v q6).l) rfl rfl ?_ ?_ (cs32_one _) ?_; (· exact HOV.out.below hb8); (· rw [Try.szH5, cs32_size, V5.l_length]); (· rw [cs32_size, cs32_size, V5.l_length, V5.l_length]))
      go_roundw
      case rel =>
        refine ⟨n, k + 1, blockR v q6, by go_num, by have := HKN.out; omega, ?_, (HOV.out.below hb8).row _, (HR.out.below hb8).row_ne (by omega) _, below_row (below_then HB.out hb8 HB.out.size) (by omega) _, ?_⟩
        · exact (HSQ.out.below hb8).row_ne (sl8_ne_own32 (HSQ.out.below hb8) (by rw [← HL.out]; omega) (HOV.out.below hb8)) _
        · have h1 := HQ.out; rw [hashR_step, ← HQ6.out, List.drop_drop] at h1; exact h1
      case measure => simp [intOf]; omega
end Go.Proofs.Ytdddalcjcgeocaa
