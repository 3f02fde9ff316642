/- The document's padded bytes, walked: blocks of 64, a length of 8 bytes. -/
import Derived.Test.YtdddalcjcgeocaaProg
import Derived.Test.YtdddalcjcgeocaaRow
import Derived.Test.YtdddalcjcgeocaaSha1S
import Derived.Test.YtdddalcjcgeocaaSha1P
namespace Go.Proofs.Ytdddalcjcgeocaa
open Go.RowKit
set_option linter.unusedVariables false
set_option linter.unusedSimpArgs false
attribute [local go_sem] i8_of64 i64_wrap
attribute [local go_sem ↓ high] i64_shr
set_option maxRecDepth 100000 in
set_option maxHeartbeats 2000000 in
theorem padded64 (bs : List U8) (A : Option Addr) (c : Nat) (hbl : bs.length ≤ 1000000) (w : World) (hbs : Sl v8 w A bs) :
    Calls Try.prog 14 #[.slice A bs.length c, .int .i64 64, .int .i64 8] w (RetSl v8 w (padG64 bs)) := by
  obtain ⟨M, hM⟩ : ∃ M : U64, M = BitVec.ofNat 64 (bs.length * 8) := ⟨_, rfl⟩
  have hMi : (bs.length : Int) * 8 = i64 M := by
    rw [hM, i64, BitVec.toNat_ofNat, Nat.mod_eq_of_lt (by omega)]; omega
  have HM := Lib.hid hM
  clear hM
  go_enter Try.func14, Try.ntmps14
  go_wp2_with (first | ((with_reducible refine at_dst (N := 13) rfl ?_); refine wpList_apps v8_one (w0 := w) (w.heap.size) rfl (.tmp 11) (.tmp 12) 22 5 (.int .u8 0) 1 rfl Try.underlying22 Try.inU8 rfl (by decide) (.slice (some ⟨w.heap.size, 0, none⟩) 0 0) ([]) (bs) (A) (c) rfl rfl ?_ ?_ ?_ ?_ ?_ ?_; (· exact owns_made0 _ _ _ rfl (Nat.le_refl _)); (· exact hbs.below ((Below.refl _ _).alloc (Nat.le_refl _) _)); (· exact (Below.refl _ _).alloc (Nat.le_refl _) _); (· simp); (· simp; omega); intro v1 w1 ho1 hb1 hg1) | ((with_reducible refine at_dst (N := 16) rfl ?_); refine wpList_app1 v8_one (w0 := w) (w.heap.size) rfl (.tmp 14) (.tmp 15) 22 5 (.int .u8 0) 1 rfl Try.underlying22 Try.inU8 rfl (by decide) (v1) ([] ++ bs) (128) rfl rfl rfl ?_ ?_ ?_ ?_ ?_; (· exact ho1); (· exact hb1); (· exact hb1.size); (· simp; omega); intro v2 w2 ho2 hb2 hg2))
  clear ho1 hb1 hg1 hg2
  obtain ⟨p0, hp0⟩ : ∃ p0, p0 = bs ++ [(128 : U8)] := ⟨_, rfl⟩
  simp only [List.nil_append] at ho2
  rw [← hp0] at ho2
  have hpl : p0.length = bs.length + 1 := by rw [hp0]; simp
  have HP := Lib.hid hp0
  clear hp0
  obtain ⟨L, hL⟩ : ∃ L, L = p0.length := ⟨_, rfl⟩
  have hL2 : L ≤ 1000001 := by omega
  have HL := Lib.hid hL
  have HPL := Lib.hid hpl
  clear hL hpl
  go_loopw [7] (fun p wr => ∃ j : Nat, j ≤ zcG64 L ∧ wr.ownsRow w.heap.size 5 1 p (p0 ++ List.replicate j (0 : U8)).length ((p0 ++ List.replicate j (0 : U8)).map v8) ∧ Below w.heap.size w wr)
    (fun p _ => L + 64 - lenOf p)
  case atStart => exact ⟨0, by omega, by simpa using ho2, hb2⟩
  case round =>
    clear ho2 hb2
    obtain ⟨j, hj, ho, hb⟩ := hrel
    obtain ⟨Ap, cp, rfl, hcp⟩ := owns_slice ho
    obtain ⟨n, hn⟩ : ∃ n, n = (p0 ++ List.replicate j (0 : U8)).length := ⟨_, rfl⟩
    have hn1 : n = L + j := by rw [hn, HL.out]; simp
    rw [← hn] at ho hcp ⊢
    have HN := Lib.hid hn1
    have HN2 := Lib.hid hn
    have hj64 : j < 64 := by unfold zcG64 at hj; omega
    have hnle : n ≤ 1000200 := by omega
    clear hn hn1
    by_cases hlt : j < zcG64 L
    · have he : ((n : Int) % 64 != 56) = true := by rw [bne_iff_ne]; have := HN.out; unfold zcG64 at hlt; omega
      have HO := Lib.hid ho; have HB := Lib.hid hb
      clear ho hb
      go_wp2_with ((with_reducible refine at_dst (N := 27) rfl ?_); refine wpList_app1 v8_one (w0 := w) (w.heap.size) rfl (.tmp 25) (.tmp 26) 22 5 (.int .u8 0) 1 rfl Try.underlying22 Try.inU8 rfl (by decide) (.slice Ap n cp) (p0 ++ List.replicate j (0 : U8)) (0) rfl rfl rfl ?_ ?_ ?_ ?_ ?_; (· rw [← HN2.out]; exact HO.out); (· exact HB.out); (· exact HB.out.size); (· rw [← HN2.out]; omega); intro v3 w3 ho3 hb3 hg3)
      go_roundw
      case rel => exact ⟨j + 1, by omega, by rw [List.replicate_succ', ← List.append_assoc]; exact ho3, hb3⟩
      case measure =>
        obtain ⟨A3, c3, rfl, _⟩ := owns_slice ho3
        have h1 := HN.out
        have h4 := HL.out
        simp [lenOf]
        omega
    · have he : ((n : Int) % 64 != 56) = false := by rw [bne_eq_false_iff_eq]; have := HN.out; unfold zcG64 at hlt hj; omega
      go_wp2
      clear he
      have hj2 : j = zcG64 L := by omega
      have hp1 : n = (p0 ++ List.replicate (zcG64 L) (0 : U8)).length := by rw [← hj2]; exact HN2.out
      have ho' : wr.ownsRow w.heap.size 5 1 (.slice Ap n cp) (p0 ++ List.replicate (zcG64 L) (0 : U8) ++ lenG64 M 0).length ((p0 ++ List.replicate (zcG64 L) (0 : U8) ++ lenG64 M 0).map v8) := by
        have ho2 : wr.ownsRow w.heap.size 5 1 (.slice Ap n cp) (p0 ++ List.replicate j (0 : U8)).length ((p0 ++ List.replicate j (0 : U8)).map v8) := by
          rw [← HN2.out]; exact ho
        rw [← hj2]; simpa [lenG64] using ho2
      obtain ⟨p1, hp1'⟩ : ∃ p1, p1 = p0 ++ List.replicate (zcG64 L) (0 : U8) := ⟨_, rfl⟩
      rw [← hp1'] at ho' hp1
      have HP1 := Lib.hid hp1'
      have HN3 := Lib.hid hp1
      clear hp1' hp1 hj2 hlt hj ho hcp
      go_loopw [7, 9] (fun p i wr => ∃ k : Nat, k ≤ 8 ∧ i = .int .i64 (7 - (k : Int)) ∧ wr.ownsRow w.heap.size 5 1 p (p1 ++ lenG64 M k).length ((p1 ++ lenG64 M k).map v8) ∧ Below w.heap.size w wr)
        (fun _ i _ => (intOf i + 1).toNat)
      case atStart => exact ⟨0, by omega, by simp, ho', hb⟩
      case round =>
        clear ho' hb
        obtain ⟨k, hk, rfl, ho, hb⟩ := hrel
        obtain ⟨Aq, cq, rfl, hcq⟩ := owns_slice ho
        obtain ⟨m, hm⟩ : ∃ m, m = (p1 ++ lenG64 M k).length := ⟨_, rfl⟩
        have hmle : m ≤ 1000300 := by rw [hm, List.length_append, lenG64_length, ← HN3.out]; omega
        rw [← hm] at ho hcq ⊢
        have HM2 := Lib.hid hm
        clear hm
        by_cases hlt : k < 8
        · have hge : 0 ≤ 7 - (k : Int) := by omega
          by_cases h8 : 7 - k < 8
          · have htn : (8 * (7 - (k : Int))).toNat = 8 * (7 - k) := by omega
            have h8' : 7 - (k : Int) < 8 := by omega
            have HO := Lib.hid ho; have HB := Lib.hid hb
            clear ho hb
            go_wp2_with ((with_reducible refine at_dst (N := 49) rfl ?_); refine wpList_app1 v8_one (w0 := w) (w.heap.size) rfl (.tmp 46) (.tmp 48) 22 5 (.int .u8 0) 1 rfl Try.underlying22 Try.inU8 rfl (by decide) (.slice Aq m cq) (p1 ++ lenG64 M k) ((M >>> (8 * (7 - k))).setWidth 8) (v8_shr64 _ _) rfl rfl ?_ ?_ ?_ ?_ ?_; (· rw [← HM2.out]; exact HO.out); (· exact HB.out); (· exact HB.out.size); (· rw [← HM2.out]; omega); intro v3 w3 ho3 hb3 hg3)
            go_roundw
            case rel => exact ⟨k + 1, by omega, by go_num, by rw [lenG64_succ, if_pos h8, ← List.append_assoc]; exact ho3, hb3⟩
            case measure => simp [intOf]; omega
          · exfalso; omega
        · have hge : ¬ (0 ≤ 7 - (k : Int)) := by omega
          have hk8 : k = 8 := by omega
          have hfin : p1 ++ lenG64 M 8 = padG64 bs := by rw [HP1.out, padG64, HP.out, HM.out, HL.out, HP.out]; simp
          have hml : (padG64 bs).length = m := by rw [← hfin, HM2.out, hk8]
          have hres : RetSl v8 w (padG64 bs) (.returned (.slice Aq m cq)) wr := by
            have ho2 : wr.ownsRow w.heap.size 5 1 (.slice Aq m cq) m ((padG64 bs).map v8) := by rw [← hfin, ← hk8]; exact ho
            obtain ⟨A', c', he, h1, h2, h3⟩ := owns_sl ho2
            exact ⟨A', c', by rw [he, hml], by omega, h3, hb⟩
          have HR := Lib.hid hres
          clear hres hml hfin hk8 ho hb hcq
          go_wp2
          go_ret
          exact HR.out
end Go.Proofs.Ytdddalcjcgeocaa
