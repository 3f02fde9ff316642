/- SHA-1's sum, walked. -/
import Derived.Test.YtdddalcjcgeocaaRow
import Derived.Test.YtdddalcjcgeocaaSha1B
namespace Go.Proofs.Ytdddalcjcgeocaa
open Go.RowKit
set_option linter.unusedVariables false
set_option linter.unusedSimpArgs false
attribute [local go_sem] i32_or i32_and i32_xor i32_wrap i32_add i32_of8 i8_of32 i8_of64 i64_wrap
attribute [local go_sem ↓ high] i32_shl i32_shr i64_shr
theorem Try.inU8 : (Try.prog.info? 5).map (fun i => (i.zero, i.size, i.bytes)) = some (some (.int .u8 0), 1, 1) := by kernel_rfl
theorem Try.szS20 : (Try.prog.info? 24).map (·.size) = some 20 := by kernel_rfl
theorem Try.zS20 (w : World) : Sem.run Try.prog (zeroValue 24) w = .ok (.agg (cs8 (z8 20))) w := by kernel_rfl

set_option maxRecDepth 100000 in
set_option maxHeartbeats 2000000 in
theorem sum (bs : List U8) (A : Option Addr) (c : Nat) (hbl : bs.length ≤ 1000000) (w : World) (hbs : Sl v8 w A bs) :
    Calls Try.prog 8 #[.slice A bs.length c] w fun e w' => e = .returned (.agg (cs8 (sumF bs))) ∧ Below w.heap.size w w' := by
  have hz := Try.zS20
  have hz5 := Try.zH5
  obtain ⟨M, hM⟩ : ∃ M : U64, M = BitVec.ofNat 64 (bs.length * 8) := ⟨_, rfl⟩
  have hMi : (bs.length : Int) * 8 = i64 M := by
    rw [hM, i64, BitVec.toNat_ofNat, Nat.mod_eq_of_lt (by omega)]; omega
  have HM := Lib.hid hM
  clear hM
  go_enter Try.func8, Try.ntmps8
  go_wp2_with (first | ((with_reducible refine at_dst (N := 15) rfl ?_); refine wpList_apps v8_one (w0 := w.alloc (.cells (cs8 (z8 20)) 24)) (w.heap.size + 1) rfl (.tmp 13) (.tmp 14) 22 5 (.int .u8 0) 1 rfl Try.underlying22 Try.inU8 rfl (by decide) (.slice (some ⟨w.heap.size + 1, 0, none⟩) 0 0) [] bs A c rfl rfl ?_ ?_ ?_ ?_ ?_ ?_; (· exact owns_made0 _ _ _ (by simp) (by simp)); (· exact hbs.below (((Below.refl _ _).alloc (Nat.le_refl _) _).alloc (by simp) _)); (· exact (Below.refl _ _).alloc (by simp) _); (· simp); (· simp; omega); intro v1 w1 ho1 hb1 hg1) | ((with_reducible refine at_dst (N := 17) rfl ?_); refine wpList_app1 v8_one (w0 := w.alloc (.cells (cs8 (z8 20)) 24)) (w.heap.size + 1) rfl (.tmp 15) (.tmp 16) 22 5 (.int .u8 0) 1 rfl Try.underlying22 Try.inU8 rfl (by decide) v1 ([] ++ bs) 128 rfl rfl rfl ho1 hb1 ?_ ?_ ?_; (· have := hb1.size; simp at this; omega); (· simp; omega); intro v2 w2 ho2 hb2 hg2))
  clear ho1 hb1 hg1 hg2 hz
  obtain ⟨p0, hp0⟩ : ∃ p0, p0 = bs ++ [(128 : U8)] := ⟨_, rfl⟩
  simp only [List.nil_append] at ho2
  rw [← hp0] at ho2
  have hpl : p0.length = bs.length + 1 := by rw [hp0]; simp
  have HP := Lib.hid hp0
  clear hp0
  obtain ⟨L, hL⟩ : ∃ L, L = p0.length := ⟨_, rfl⟩
  have hL2 : L ≤ 1000001 := by omega
  have HL := Lib.hid hL
  have HPL := Lib.hid hpl
  clear hL hpl
  go_loopw [4] (fun p wr => ∃ j : Nat, j ≤ zc L ∧ wr.ownsRow (w.heap.size + 1) 5 1 p (p0 ++ List.replicate j (0 : U8)).length ((p0 ++ List.replicate j (0 : U8)).map v8) ∧ Below (w.heap.size + 1) (w.alloc (.cells (cs8 (z8 20)) 24)) wr)
    (fun p _ => L + 64 - lenOf p)
  case atStart => exact ⟨0, by omega, by simpa using ho2, hb2⟩
  case round =>
    clear ho2 hb2
    obtain ⟨j, hj, ho, hb⟩ := hrel
    obtain ⟨Ap, cp, rfl, hcp⟩ := owns_slice ho
    obtain ⟨n, hn⟩ : ∃ n, n = (p0 ++ List.replicate j (0 : U8)).length := ⟨_, rfl⟩
    have hn1 : n = L + j := by rw [hn, HL.out]; simp
    rw [← hn] at ho hcp ⊢
    have HN := Lib.hid hn1
    have HN2 := Lib.hid hn
    have hj64 : j < 64 := by unfold zc at hj; omega
    have hnle : n ≤ 1000100 := by omega
    clear hn hn1
    by_cases hlt : j < zc L
    · have he : ((n : Int) % 64 != 56) = true := by rw [bne_iff_ne]; have := HN.out; unfold zc at hlt; omega
      have HO := Lib.hid ho; have HB := Lib.hid hb
      clear ho hb
      go_wp2_with ((with_reducible refine at_dst (N := 24) rfl ?_); refine wpList_app1 v8_one (w0 := w.alloc (.cells (cs8 (z8 20)) 24)) (w.heap.size + 1) rfl (.tmp 22) (.tmp 23) 22 5 (.int .u8 0) 1 rfl Try.underlying22 Try.inU8 rfl (by decide) (.slice Ap n cp) (p0 ++ List.replicate j (0 : U8)) 0 rfl rfl rfl ?_ HB.out ?_ ?_ ?_; (· rw [← HN2.out]; exact HO.out); (· have := HB.out.size; simp at this; omega); (· rw [← HN2.out]; omega); intro v3 w3 ho3 hb3 hg3)
      go_roundw
      case rel => exact ⟨j + 1, by omega, by rw [List.replicate_succ', ← List.append_assoc]; exact ho3, hb3⟩
      case measure =>
        obtain ⟨A3, c3, rfl, _⟩ := owns_slice ho3
        have h1 := HN.out
        have h4 := HL.out
        simp [lenOf]
        omega
    · have he : ((n : Int) % 64 != 56) = false := by rw [bne_eq_false_iff_eq]; have := HN.out; unfold zc at hlt hj; omega
      go_wp2
      clear he
      have hj2 : j = zc L := by omega
      have hp1 : n = (p0 ++ List.replicate (zc L) (0 : U8)).length := by rw [← hj2]; exact HN2.out
      have ho' : wr.ownsRow (w.heap.size + 1) 5 1 (.slice Ap n cp) (p0 ++ List.replicate (zc L) (0 : U8) ++ lenB M 0).length ((p0 ++ List.replicate (zc L) (0 : U8) ++ lenB M 0).map v8) := by
        have ho2 : wr.ownsRow (w.heap.size + 1) 5 1 (.slice Ap n cp) (p0 ++ List.replicate j (0 : U8)).length ((p0 ++ List.replicate j (0 : U8)).map v8) := by
          rw [← HN2.out]; exact ho
        rw [← hj2]; simpa [lenB] using ho2
      obtain ⟨p1, hp1'⟩ : ∃ p1, p1 = p0 ++ List.replicate (zc L) (0 : U8) := ⟨_, rfl⟩
      rw [← hp1'] at ho' hp1
      have HP1 := Lib.hid hp1'
      have HN3 := Lib.hid hp1
      clear hp1' hp1 hj2 hlt hj ho hcp
      go_loopw [4, 5] (fun p i wr => ∃ k : Nat, k ≤ 8 ∧ i = .int .i64 (56 - 8 * (k : Int)) ∧ wr.ownsRow (w.heap.size + 1) 5 1 p (p1 ++ lenB M k).length ((p1 ++ lenB M k).map v8) ∧ Below (w.heap.size + 1) (w.alloc (.cells (cs8 (z8 20)) 24)) wr)
        (fun _ i _ => (intOf i + 8).toNat)
      case atStart => exact ⟨0, by omega, by simp, ho', hb⟩
      case round =>
        clear ho' hb
        obtain ⟨k, hk, rfl, ho, hb⟩ := hrel
        obtain ⟨Aq, cq, rfl, hcq⟩ := owns_slice ho
        obtain ⟨m, hm⟩ : ∃ m, m = (p1 ++ lenB M k).length := ⟨_, rfl⟩
        have hmle : m ≤ 1000200 := by rw [hm, List.length_append, lenB_length, ← HN3.out]; omega
        rw [← hm] at ho hcq ⊢
        have HM2 := Lib.hid hm
        clear hm
        by_cases hlt : k < 8
        · have hge : 0 ≤ 56 - 8 * (k : Int) := by omega
          have htn : (56 - 8 * (k : Int)).toNat = 56 - 8 * k := by omega
          have HO := Lib.hid ho; have HB := Lib.hid hb
          clear ho hb
          go_wp2_with ((with_reducible refine at_dst (N := 35) rfl ?_); refine wpList_app1 v8_one (w0 := w.alloc (.cells (cs8 (z8 20)) 24)) (w.heap.size + 1) rfl (.tmp 29) (.tmp 34) 22 5 (.int .u8 0) 1 rfl Try.underlying22 Try.inU8 rfl (by decide) (.slice Aq m cq) (p1 ++ lenB M k) ((M >>> (56 - 8 * k)).setWidth 8) (v8_shr64 _ _) rfl rfl ?_ HB.out ?_ ?_ ?_; (· rw [← HM2.out]; exact HO.out); (· have := HB.out.size; simp at this; omega); (· rw [← HM2.out]; omega); intro v3 w3 ho3 hb3 hg3)
          go_roundw
          case rel => exact ⟨k + 1, by omega, by go_num, by rw [lenB_succ, ← List.append_assoc]; exact ho3, hb3⟩
          case measure => simp [intOf]; omega
        · have hge : ¬ (0 ≤ 56 - 8 * (k : Int)) := by omega
          have hk8 : k = 8 := by omega
          have hfin : p1 ++ lenB M 8 = padF bs := by rw [HP1.out, padF, HP.out, HM.out, HL.out, HP.out]; simp
          have hml : (padF bs).length = m := by rw [← hfin, HM2.out, hk8]
          have hsl : ∃ A' c', Value.slice Aq m cq = .slice A' m c' ∧ m ≤ c' ∧ (padF bs).length = m ∧ Sl v8 wr A' (padF bs) := by
            have ho2 : wr.ownsRow (w.heap.size + 1) 5 1 (.slice Aq m cq) m ((padF bs).map v8) := by rw [← hfin, ← hk8]; exact ho
            exact owns_sl ho2
          obtain ⟨Aq', cq', hve, hcq', _, hsp⟩ := hsl
          injection hve with e1 _ e3
          subst e1; subst e3
          have HSP := Lib.hid hsp
          have HML := Lib.hid hml
          have HHB := Lib.hid hb
          clear hsp hml hfin hk8 hlt hk ho hb hcq
          go_wp2_with (first | (go_at_call 12; refine (start _).mono ?_; rintro e w5 ⟨rfl, hb5⟩) | ((with_reducible refine at_store (N := 6) rfl ?_); refine wpList_store_own rfl 28 (.tmp 6) (.tmp 36) rfl (g := w5.heap.size) (t := 28) (old := cs32 (z32 5)) ?_ (cs32 startF.l) rfl rfl ?_ ?_ (cs32_one _) ?_; (· exact Own.newc rfl rfl); (· rw [Try.szH5]; rfl); (· rfl)))
          have hsz : wr.heap.size ≤ w5.heap.size := hb5.size
          have hb6 : Below wr.heap.size wr ((w5.alloc (.cells #[.int .u32 0, .int .u32 0, .int .u32 0, .int .u32 0, .int .u32 0] 28)).setRow w5.heap.size (cs32 startF.l)) := below_row (hb5.alloc hsz _) hsz _
          have hO6 : Own ((w5.alloc (.cells #[.int .u32 0, .int .u32 0, .int .u32 0, .int .u32 0, .int .u32 0] 28)).setRow w5.heap.size (cs32 startF.l)) w5.heap.size 28 (cs32 startF.l) := by (repeat (first | (with_reducible assumption) | ((with_reducible refine Own.newc ?_ ?_); (· simp; done); (· rfl)) | (with_reducible refine Own.alloc ?_ _) | ((with_reducible refine Own.row_ne ?_ ?_ _); rotate_left; (· omega)) | ((with_reducible refine Own.set_ne ?_ ?_ _ _); rotate_left; (· omega)) | (with_reducible refine Has.row ?_ _) | ((with_reducible refine Has.newc ?_); (simp; done)) | (with_reducible refine Has.alloc ?_ _) | ((with_reducible refine Has.row_ne ?_ ?_ _); rotate_left; (· omega)) | ((with_reducible refine Has.set_ne ?_ ?_ _ _); rotate_left; (· omega))))
          have hp64 := padF_length bs
          obtain ⟨N, hN⟩ : ∃ N, N = (padF bs).length / 64 := ⟨_, rfl⟩
          have hfin : blocksF N startF (padF bs) = hashF bs := by rw [hN]; rfl
          rw [← hN] at hp64
          have hmN : m = 64 * N := by rw [← HML.out]; exact hp64
          have hne : ∀ b o, Aq = some ⟨b, o, none⟩ → b ≠ w5.heap.size := fun b o hA => by
            have := HSP.out.lt (by rw [HML.out]; have := HM2.out; rw [List.length_append, lenB_length] at this; omega) b o hA
            omega
          have hb1 : Below (w.heap.size + 1) (w.alloc (.cells (cs8 (z8 20)) 24)) ((w5.alloc (.cells #[.int .u32 0, .int .u32 0, .int .u32 0, .int .u32 0, .int .u32 0] 28)).setRow w5.heap.size (cs32 startF.l)) :=
            HHB.out.trans (hb6.mono (by have := HHB.out.size; simpa using this))
          have hsp := HSP.out.below hb6
          obtain ⟨gh, hgh⟩ : ∃ gh, gh = w5.heap.size := ⟨_, rfl⟩
          have hghB : w.heap.size + 1 ≤ gh := by have := HHB.out.size; simp at this; omega
          rw [← hgh] at hO6 hb1 hsp hne ⊢
          have HNE := Lib.hid hne
          clear hne
          have HN5 := Lib.hid hN; have HF := Lib.hid hfin; have HMN := Lib.hid hmN; have HP64 := Lib.hid hp64
          clear hN hfin hmN hp64 hb6 hb5 hsz hgh
          simp only [Act.put]
          go_loopw [4] (fun p wr => ∃ (n : Nat) (q : List U8) (v : V5) (A : Option Addr) (c l : Nat), p = .slice A l c ∧ l = 64 * n ∧ q.length = l ∧ l ≤ c ∧ l ≤ 1000200 ∧ Sl v8 wr A q ∧ Own wr gh 28 (cs32 v.l) ∧ Below (w.heap.size + 1) (w.alloc (.cells (cs8 (z8 20)) 24)) wr ∧ Hid (blocksF n v q = hashF bs) ∧ Hid (∀ b o, A = some ⟨b, o, none⟩ → b ≠ gh))
            (fun p _ => lenOf p)
          case atStart => exact ⟨N, padF bs, startF, Aq, cq, m, rfl, HMN.out, HML.out, hcq', hmle, hsp, hO6, hb1, HF, HNE⟩
          case round =>
            clear hO6 hb1 hsp
            obtain ⟨n, q, v, A3, c3, l, rfl, hln, hql, hlc, hlb, hsq, hOv, hb, HQ, HNE⟩ := hrel
            cases n with
            | zero =>
              have hl0 : ¬ (0 : Int) < (l : Int) := by omega
              have hOh : Own wr gh 28 (cs32 (hashF bs).l) := by
                have h1 := HQ.out
                rw [← h1]; exact hOv
              clear hOv HQ
              have HB := Lib.hid hb
              have hszr : w.heap.size + 1 ≤ wr.heap.size := by have := hb.size; simpa using this
              have hres : Own wr w.heap.size 24 (cs8 (z8 20)) := (hb.block w.heap.size (by omega)).trans (Own.newc rfl rfl)
              clear hln hql hlc hsq hb
              have hz := Try.zS20
              go_wp2
              have hO1 := HB.out.frozen (p := ⟨w.heap.size, 0, none⟩) (by simp)
              clear hO1
              obtain ⟨wo, rfl⟩ : ∃ wo : World, wo = wr := ⟨_, rfl⟩
              go_loopw [47] (fun i wr => ∃ k : Nat, k ≤ 20 ∧ i = .int .i64 k ∧ Own wr gh 28 (cs32 (hashF bs).l) ∧ Own wr wo.heap.size 24 (cs8 (outK (hashF bs).l k)) ∧ Own wr w.heap.size 24 (cs8 (z8 20)) ∧ Below w.heap.size w wr)
                (fun i _ => 20 - (intOf i).toNat)
              case atStart => exact ⟨0, by omega, rfl, hOh.alloc _, Own.newc rfl rfl, hres.alloc _, (((Below.refl _ w).alloc (Nat.le_refl _) _).trans (HB.out.mono (by simp))).alloc (by omega) _⟩
              case round =>
                have hghlt := hOh.lt
                clear hOh hres
                obtain ⟨k, hk, rfl, h5, hq, hr, hb⟩ := hrel
                by_cases hlt : k < 20
                · have c5 := h5.cell32 (k / 4) (by rw [V5.l_length]; omega)
                  have f1 := hq.frozen k
                  have c1 := hq.cell8 k (by rw [outK_length]; omega)
                  have hsh : (24 - 8 * ((k : Int) % 4)).toNat = 24 - 8 * (k % 4) := by omega
                  have hge : 0 ≤ 24 - 8 * ((k : Int) % 4) := by omega
                  have H5 := Lib.hid h5; have HQ2 := Lib.hid hq; have HR := Lib.hid hr; have HB2 := Lib.hid hb
                  clear h5 hq hr hb
                  go_wp2
                  go_roundw
                  case rel => exact ⟨k + 1, by omega, by go_num, H5.out.set_ne (by omega) _ _, HQ2.out.set8' k (outF (hashF bs).l k) (v8_shr32 _ _), HR.out.set_ne (by omega) _ _, HB2.out.setCell (by simp; omega) _⟩
                  case measure => simp [intOf]; omega
                · have hq2 : Own wr wo.heap.size 24 (cs8 (sumF bs)) := by
                    have : k = 20 := by omega
                    subst this; exact hq
                  go_wp2_with (first | ((with_reducible refine at_dst (N := 63) rfl ?_); refine wpList_load_own rfl 24 _ rfl (g := wo.heap.size) (t := 24) (cs := cs8 (sumF bs)) hq2 rfl Try.underlying24 rfl ?_ ?_; (· rw [Try.szS20, cs8_size, sumF_length])) | ((with_reducible refine at_store (N := 2) rfl ?_); refine wpList_store_own rfl 24 (.tmp 2) (.tmp 63) rfl hr (cs8 (sumF bs)) rfl rfl ?_ ?_ (cs8_one _) ?_; (· rw [Try.szS20, cs8_size, sumF_length]); (· rw [cs8_size, cs8_size, z8_length, sumF_length])))
                  refine bodyPost_ret (results_own rfl _ (hr.row _) rfl Try.underlying24 rfl (by rw [Try.szS20, cs8_size, sumF_length])) rfl ?_
                  exact ⟨rfl, below_row hb (Nat.le_refl _) _⟩
            | succ n =>
              have hl64 : 64 ≤ l := by omega
              have hlpos : 0 < l := by omega
              obtain ⟨b3, o3, rfl, hcells⟩ := hsq.all (by omega)
              obtain ⟨q6, hq6⟩ : ∃ q6, q6 = q.take 64 := ⟨_, rfl⟩
              have hrng : wr.rangeAt b3 o3 (cs8 q6).toList := by rw [hq6]; exact Sl.range hcells 64
              have hq6l : q6.length = 64 := by rw [hq6, List.length_take, hql, Nat.min_eq_left hl64]
              obtain ⟨A4, hs4, hA4, hrun4⟩ := run_slice_cut (P := Try.prog) hsq 22 5 c3 64 .i64 64 rfl Try.underlying22 Try.szU8 (by omega) (by omega)
              rw [hql] at hrun4
              have harr := run_arrayAt (P := Try.prog) 29 5 64 ⟨b3, o3, none⟩ l c3 Try.underlying29 hl64
              have HS4 := Lib.hid hs4; have HB := Lib.hid hb; have HOV := Lib.hid hOv; have HR := Lib.hid hrng; have HQL := Lib.hid hql; have HLN := Lib.hid hln
              have H4 := Lib.hid hrun4; have HQ6 := Lib.hid hq6; have HA4 := Lib.hid hA4; have HQL6 := Lib.hid hq6l
              clear hs4 hb hOv hrng hql hln hrun4 hsq hcells hq6 hq6l hA4
              go_wp2
              refine wp_region_plan 5 [(true, 0), (true, 1), (true, 2), (true, 3), (false, 4)]
                (fun W => Own W gh 28 (cs32 v.l) ∧ W.rangeAt b3 o3 (cs8 q6).toList)
                (by kernel_rfl) (by kernel_rfl) (fun _ _ d _ _ h => by cases d <;> exact h) ⟨HOV.out, HR.out⟩ ?_
              refine plan_take _ rfl (yieldsIf_load_own rfl 28 _ rfl gh rfl 28 (cs32 v.l) _ (fun W h => h.1) Try.underlying28 rfl (by rw [Try.szH5]; rfl)) ?_
              (try simp only [Act.put, List.setIfInBounds_toArray, List.set_cons_zero, List.set_cons_succ])
              (refine plan_take ?_ rfl (Or.inl ⟨rfl, ?_⟩) ?_; rotate_left; (· intro W hS; (try dsimp only at hS); go_split_ands; go_simp; (try simp (disch := omega) only [w64_in]); (try rw [if_pos (by omega)]); (try with_reducible rfl)); (try simp only [Act.put, List.setIfInBounds_toArray, List.set_cons_zero, List.set_cons_succ]))
              (refine plan_take ?_ rfl (Or.inl ⟨rfl, ?_⟩) ?_; rotate_left; (· intro W hS; (try dsimp only at hS); go_split_ands; go_simp; (try simp (disch := omega) only [w64_in]); (try rw [if_pos (by omega)]); (try with_reducible rfl)); (try simp only [Act.put, List.setIfInBounds_toArray, List.set_cons_zero, List.set_cons_succ]))
              refine plan_take _ rfl (yieldsIf_load_mid rfl 29 _ rfl b3 o3 rfl (cs8 q6).toList _ (fun W h => h.2) Try.underlying29 rfl (by rw [Try.szB64, Array.length_toList, cs8_size, HQL6.out])) ?_
              (try simp only [Act.put, List.setIfInBounds_toArray, List.set_cons_zero, List.set_cons_succ])
              refine plan_loud rfl ?_
              go_wp2_with (go_at_call 10; refine (block v q6 HQL6.out _).mono ?_; rintro e w7 ⟨rfl, hb7⟩)
              have hO7 : Own w7 gh 28 (cs32 v.l) := (HOV.out.drew).below hb7
              refine ⟨⟨hO7, fun j u hu => cell_below hb7 (HR.out j u hu)⟩, ?_⟩
              refine plan_tail ?_
              simp only [List.drop_succ_cons, List.drop_zero]
              have hrun4 := H4.out
              have hb8 : Below (w.heap.size + 1) (w.alloc (.cells (cs8 (z8 20)) 24)) w7 := HB.out.trans ((Below.refl _ wr).drew.trans (hb7.mono (by have := HB.out.size; simp at this; simpa using this)))
              go_wp2_with (first | ((with_reducible refine at_store (N := 6) rfl ?_); refine wpList_store_own rfl 28 (.tmp 6) (.tmp 46) rfl (g := gh) (t := 28) (old := cs32 v.l) hO7 (cs32 (blockF v q6).l) rfl rfl ?_ ?_ (cs32_one _) ?_; (· rw [Try.szH5, cs32_size, V5.l_length]); (· rw [cs32_size, cs32_size, V5.l_length, V5.l_length])))
              go_roundw
              case rel =>
                refine ⟨n, q.drop 64, blockF v q6, A4, c3 - 64, l - 64, rfl, by have := HLN.out; omega, by rw [List.length_drop, HQL.out], by omega, by omega, ?_, hO7.row _, below_row hb8 (by omega) _, ?_⟩
                · refine (HS4.out.below ((Below.refl _ wr).drew.trans (hb7.mono (by simp)))).row_ne (fun b o hA => ?_) _
                  obtain ⟨o', ho'⟩ := HA4.out b o hA
                  exact HNE.out b o' ho'
                · refine ⟨?_, fun b o hA => ?_⟩
                  · have h1 := HQ.out; rw [hashF_step, ← HQ6.out] at h1; exact h1
                  · obtain ⟨o', ho'⟩ := HA4.out b o hA
                    exact HNE.out b o' ho'
              case measure => simp [lenOf]; omega
end Go.Proofs.Ytdddalcjcgeocaa
