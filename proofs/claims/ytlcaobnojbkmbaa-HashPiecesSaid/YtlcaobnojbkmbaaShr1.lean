/- The engine, part 1: what is owed for code, told without a world. For any program. -/
import Derived.Test.YtlcaobnojbkmbaaEng1
import Derived.Test.YtlcaobnojbkmbaaProg
/- The plain functions behind SHA-1: the program's way of the block, on bit vectors. -/
namespace Go.Proofs.Ytlcaobnojbkmbaa
def rol (x : U32) (n : Nat) : U32 := x <<< n ||| x >>> (32 - n)
def sp1 (bs : List U8) : Nat → List U32
  | 0 => z32 80
  | k + 1 => (sp1 bs k).set (k / 4) (g32 (sp1 bs k) (k / 4) <<< 8 ||| (g8 bs k).setWidth 32)
theorem sp1_length (bs : List U8) (k : Nat) : (sp1 bs k).length = 80 := by
  induction k with
  | zero => exact z32_length 80
  | succ k ih => simp [sp1, ih]
def sp2 (bs : List U8) : Nat → List U32
  | 0 => sp1 bs 64
  | k + 1 => (sp2 bs k).set (k + 16) (rol (g32 (sp2 bs k) (k + 13) ^^^ g32 (sp2 bs k) (k + 8) ^^^ g32 (sp2 bs k) (k + 2) ^^^ g32 (sp2 bs k) k) 1)
theorem sp2_length (bs : List U8) (k : Nat) : (sp2 bs k).length = 80 := by
  induction k with
  | zero => exact sp1_length bs 64
  | succ k ih => simp [sp2, ih]
def spreadF (bs : List U8) : List U32 := sp2 bs 64
theorem spreadF_length (bs : List U8) : (spreadF bs).length = 80 := sp2_length bs 64
structure V5 where
  (a b c d e : U32)
def V5.l (v : V5) : List U32 := [v.a, v.b, v.c, v.d, v.e]
theorem V5.l_length (v : V5) : v.l.length = 5 := rfl
def mixF (t : Nat) (b c d : U32) : U32 :=
  if t / 20 = 0 then d ^^^ (b &&& (c ^^^ d)) else if t / 20 = 2 then b &&& c ||| d &&& (b ||| c) else b ^^^ c ^^^ d
def ks : List U32 := [0x5a827999, 0x6ed9eba1, 0x8f1bbcdc, 0xca62c1d6]
theorem ks_length : ks.length = 4 := rfl
def stepF (ws : List U32) (t : Nat) (v : V5) : V5 :=
  ⟨rol v.a 5 + mixF t v.b v.c v.d + v.e + g32 ks (t / 20) + g32 ws t, v.a, rol v.b 30, v.c, v.d⟩
def roundsF (ws : List U32) (v : V5) : Nat → V5
  | 0 => v
  | k + 1 => stepF ws k (roundsF ws v k)
def addF (r h : V5) : V5 := ⟨r.a + h.a, r.b + h.b, r.c + h.c, r.d + h.d, r.e + h.e⟩
def addK (r h : List U32) : Nat → List U32
  | 0 => r
  | k + 1 => (addK r h k).set k (g32 (addK r h k) k + g32 h k)
theorem addK_length (r h : List U32) (k : Nat) : (addK r h k).length = r.length := by
  induction k with
  | zero => rfl
  | succ k ih => simp [addK, ih]
theorem addK_all (r h : V5) : addK r.l h.l 5 = (addF r h).l := rfl
def blockF (h : V5) (bs : List U8) : V5 := addF (roundsF (spreadF bs) h 80) h
def startF : V5 := ⟨0x67452301, 0xefcdab89, 0x98badcfe, 0x10325476, 0xc3d2e1f0⟩
/-! ### The hash of bytes -/
def zc (L : Nat) : Nat := (120 - L % 64) % 64
def lenB (M : U64) (j : Nat) : List U8 := (List.range j).map fun t => (M >>> (56 - 8 * t)).setWidth 8
def padF (bs : List U8) : List U8 := bs ++ [128] ++ List.replicate (zc (bs.length + 1)) 0 ++ lenB (BitVec.ofNat 64 (bs.length * 8)) 8
def blocksF : Nat → V5 → List U8 → V5
  | 0, h, _ => h
  | n + 1, h, p => blocksF n (blockF h (p.take 64)) (p.drop 64)
def hashF (bs : List U8) : V5 := blocksF ((padF bs).length / 64) startF (padF bs)
def outF (l : List U32) (i : Nat) : U8 := (g32 l (i / 4) >>> (24 - 8 * (i % 4))).setWidth 8
def outK (l : List U32) : Nat → List U8
  | 0 => z8 20
  | k + 1 => (outK l k).set k (outF l k)
theorem outK_length (l : List U32) (k : Nat) : (outK l k).length = 20 := by
  induction k with
  | zero => exact z8_length 20
  | succ k ih => simp [outK, ih]
def sumF (bs : List U8) : List U8 := outK (hashF bs).l 20
theorem sumF_length (bs : List U8) : (sumF bs).length = 20 := outK_length _ _
theorem lenB_length (M : U64) (j : Nat) : (lenB M j).length = j := by simp [lenB]
theorem lenB_succ (M : U64) (j : Nat) : lenB M (j + 1) = lenB M j ++ [(M >>> (56 - 8 * j)).setWidth 8] := by simp [lenB, List.range_succ]
theorem padF_length (bs : List U8) : (padF bs).length = 64 * ((padF bs).length / 64) := by
  simp only [padF, List.length_append, List.length_replicate, lenB_length, List.length_singleton, zc]
  omega
theorem padF_length_le (bs : List U8) : (padF bs).length ≤ bs.length + 73 := by
  simp only [padF, List.length_append, List.length_replicate, lenB_length, List.length_singleton, zc]
  omega
theorem hashF_step (n : Nat) (h : V5) (p : List U8) : blocksF (n + 1) h p = blocksF n (blockF h (p.take 64)) (p.drop 64) := rfl
end Go.Proofs.Ytlcaobnojbkmbaa
/- The plain functions of the document's SHA-1, on bit vectors. -/
namespace Go.Proofs.Ytlcaobnojbkmbaa
def be32 (bs : List U8) (t : Nat) : U32 :=
  (g8 bs (4 * t)).setWidth 32 <<< 24 ||| (g8 bs (4 * t + 1)).setWidth 32 <<< 16 ||| (g8 bs (4 * t + 2)).setWidth 32 <<< 8 ||| (g8 bs (4 * t + 3)).setWidth 32
def wNext (ws : List U32) (k : Nat) : U32 := rol (g32 ws (k + 13) ^^^ g32 ws (k + 8) ^^^ g32 ws (k + 2) ^^^ g32 ws k) 1
def wR (bs : List U8) : Nat → List U32
  | 0 => []
  | t + 1 => wR bs t ++ [if t < 16 then be32 bs t else wNext (wR bs t) (t - 16)]
theorem wR_length (bs : List U8) (t : Nat) : (wR bs t).length = t := by
  induction t with
  | zero => rfl
  | succ t ih => simp [wR, ih]
theorem wR_low (bs : List U8) (t : Nat) (h : t < 16) : wR bs (t + 1) = wR bs t ++ [be32 bs t] := by simp [wR, h]
theorem wR_high (bs : List U8) (k : Nat) : wR bs (k + 16 + 1) = wR bs (k + 16) ++ [wNext (wR bs (k + 16)) k] := by
  rw [wR, if_neg (by omega), Nat.add_sub_cancel]
def wRall (bs : List U8) : List U32 := wR bs 80
theorem wRall_length (bs : List U8) : (wRall bs).length = 80 := wR_length bs 80
def fR (t : Nat) (b c d : U32) : U32 :=
  if t < 20 then b &&& c ||| (b ^^^ 0xffffffff) &&& d else if t < 40 then b ^^^ c ^^^ d else if t < 60 then b &&& c ||| b &&& d ||| c &&& d else b ^^^ c ^^^ d
def kR (t : Nat) : U32 := if t < 20 then 0x5a827999 else if t < 40 then 0x6ed9eba1 else if t < 60 then 0x8f1bbcdc else 0xca62c1d6
def stepR (ws : List U32) (t : Nat) (v : V5) : V5 :=
  ⟨rol v.a 5 + fR t v.b v.c v.d + v.e + kR t + g32 ws t, v.a, rol v.b 30, v.c, v.d⟩
def roundsR (ws : List U32) (v : V5) : Nat → V5
  | 0 => v
  | k + 1 => stepR ws k (roundsR ws v k)
def blockR (h : V5) (bs : List U8) : V5 := addF (roundsR (wRall bs) h 80) h
def blocksR : Nat → V5 → List U8 → V5
  | 0, h, _ => h
  | n + 1, h, p => blocksR n (blockR h (p.take 64)) (p.drop 64)
def hashR (bs : List U8) : V5 := blocksR ((padF bs).length / 64) startF (padF bs)
def sumR (bs : List U8) : List U8 := outK (hashR bs).l 20
theorem sumR_length (bs : List U8) : (sumR bs).length = 20 := outK_length _ _
end Go.Proofs.Ytlcaobnojbkmbaa
/- What SHA-1's inner functions compute, walked. -/
namespace Go.Proofs.Ytlcaobnojbkmbaa
open Go.RowKit
set_option linter.unusedVariables false
set_option linter.unusedSimpArgs false
attribute [local go_sem] i32_or i32_and i32_xor i32_wrap i32_add i32_of8
attribute [local go_sem ↓ high] i32_shl i32_shr

set_option maxHeartbeats 400000 in
theorem rot (x : U32) (k : Int) (n : Nat) (hn : n < 32) (hs : bits .and .u64 (IntKind.u64.wrap k) 31 = (n : Int)) (w : World) :
    Calls Try.prog 53 #[.int .u32 (i32 x), .int .i64 k] w fun e w' => e = .returned (.int .u32 (i32 (rol x n))) ∧ w = w' := by
  go_enter Try.func53, Try.ntmps53
  go_wp2
  go_ret
  exact ⟨by simp [i32_shlm, i32_shr', i32_or]; rfl, rfl⟩

theorem Try.szB64 : (Try.prog.info? 64).map (·.size) = some 64 := by kernel_rfl
theorem Try.szW80 : (Try.prog.info? 90).map (·.size) = some 80 := by kernel_rfl
theorem Try.szH5 : (Try.prog.info? 51).map (·.size) = some 5 := by kernel_rfl
theorem Try.szK4 : (Try.prog.info? 89).map (·.size) = some 4 := by kernel_rfl
theorem Try.szU8 : (Try.prog.info? 5).map (·.size) = some 1 := by kernel_rfl
theorem Try.szU32 : (Try.prog.info? 50).map (·.size) = some 1 := by kernel_rfl
theorem Try.zW80 (w : World) : Sem.run Try.prog (zeroValue 90) w = .ok (.agg (cs32 (z32 80))) w := by kernel_rfl
theorem Try.zH5 (w : World) : Sem.run Try.prog (zeroValue 51) w = .ok (.agg #[.int .u32 0, .int .u32 0, .int .u32 0, .int .u32 0, .int .u32 0]) w := by kernel_rfl
theorem Try.zK4 (w : World) : Sem.run Try.prog (zeroValue 89) w = .ok (.agg #[.int .u32 0, .int .u32 0, .int .u32 0, .int .u32 0]) w := by kernel_rfl

set_option maxRecDepth 100000 in
set_option maxHeartbeats 1000000 in
theorem spread (bs : List U8) (hl : bs.length = 64) (w : World) :
    Calls Try.prog 52 #[.agg (cs8 bs)] w fun e w' => e = .returned (.agg (cs32 (spreadF bs))) ∧ Below w.heap.size w w' := by
  have hz := Try.zW80
  go_enter Try.func52, Try.ntmps52
  go_wp2_with ((with_reducible refine at_dst (N := 7) rfl ?_); refine wpList_load_own rfl 64 _ rfl (g := w.heap.size) (t := 64) (cs := cs8 bs) ?_ rfl Try.underlying64 rfl ?_ ?_; (· exact ((Own.new' (by simp)).alloc _).alloc _); (· rw [Try.szB64, cs8_size, hl]))
  go_loopw [8] (fun i wr => ∃ k : Nat, k ≤ 64 ∧ i = .int .i64 k ∧ Own wr (w.heap.size + 1 + 1) 90 (cs32 (sp1 bs k)) ∧ Own wr (w.heap.size + 1) 90 (cs32 (z32 80)) ∧ Below w.heap.size w wr)
    (fun i _ => 64 - (intOf i).toNat)
  case atStart => exact ⟨0, by omega, rfl, Own.new' (by simp), (Own.new' (by simp)).alloc _, ((((Below.refl _ _).alloc (Nat.le_refl _) _).alloc (by simp) _).alloc (by simp; omega) _)⟩
  case round =>
    obtain ⟨k, hk, rfl, hw, hr, hb⟩ := hrel
    by_cases hlt : k < 64
    · have hix := run_index_arr (P := Try.prog) 64 5 64 .u8 (cs8 bs) .i64 k _ Try.underlying64 Try.szU8 Try.underlying5 (by rw [cs8_size, hl]) (cs8_get bs k (by omega))
      have hc := hw.cell32 (k / 4) (by rw [sp1_length]; omega)
      have hf := hw.frozen (k / 4)
      have HW := Lib.hid hw; have HR := Lib.hid hr; have HB := Lib.hid hb
      clear hw hr hb
      go_wp2
      go_roundw
      case rel => exact ⟨k + 1, by omega, by go_num, HW.out.set32 _ _, HR.out.set_ne (by omega) _ _, HB.out.setCell (by simp; omega) _⟩
      case measure => simp [intOf]; omega
    · have hw0 : Own wr (w.heap.size + 1 + 1) 90 (cs32 (sp1 bs 64)) := by
        have : k = 64 := by omega
        subst this; exact hw
      clear hw
      go_wp2
      clear hk hlt
      go_loopw [6] (fun i wr => ∃ k : Nat, k ≤ 64 ∧ i = .int .i64 ((k : Int) + 16) ∧ Own wr (w.heap.size + 1 + 1) 90 (cs32 (sp2 bs k)) ∧ Own wr (w.heap.size + 1) 90 (cs32 (z32 80)) ∧ Below w.heap.size w wr)
        (fun i _ => 80 - (intOf i).toNat)
      case atStart => exact ⟨0, by omega, rfl, hw0, hr, hb⟩
      case round =>
        clear hw0 hr hb
        obtain ⟨k, hk, rfl, hw, hr, hb⟩ := hrel
        by_cases hlt : k < 64
        · have hc0 := hw.cell32 k (by rw [sp2_length]; omega)
          have hc2 := hw.cell32 (k + 2) (by rw [sp2_length]; omega)
          have hc8 := hw.cell32 (k + 8) (by rw [sp2_length]; omega)
          have hc13 := hw.cell32 (k + 13) (by rw [sp2_length]; omega)
          have hc16 := hw.cell32 (k + 16) (by rw [sp2_length]; omega)
          have hf16 := hw.frozen (k + 16)
          have HW := Lib.hid hw; have HR := Lib.hid hr; have HB := Lib.hid hb
          clear hw hr hb
          go_wp2
          have t3 : ((k : Int) + 16 - 3).toNat = k + 13 := by omega
          have t8 : ((k : Int) + 16 - 8).toNat = k + 8 := by omega
          have t14 : ((k : Int) + 16 - 14).toNat = k + 2 := by omega
          have t0 : ((k : Int) + 16).toNat = k + 16 := by omega
          refine wp_region_plan 22 [(true, 0), (true, 1), (true, 2), (true, 3), (true, 4), (true, 5), (true, 6), (true, 7), (true, 8), (true, 9), (true, 10), (true, 11), (true, 12), (true, 13), (true, 14), (true, 15), (true, 16), (true, 17), (true, 18), (true, 19), (false, 20), (true, 21)]
            (fun W => W.cell? ⟨w.heap.size + 1 + 1, k, none⟩ = some (.int .u32 (i32 (g32 (sp2 bs k) k))) ∧ W.cell? ⟨w.heap.size + 1 + 1, k + 2, none⟩ = some (.int .u32 (i32 (g32 (sp2 bs k) (k + 2)))) ∧
             W.cell? ⟨w.heap.size + 1 + 1, k + 8, none⟩ = some (.int .u32 (i32 (g32 (sp2 bs k) (k + 8)))) ∧ W.cell? ⟨w.heap.size + 1 + 1, k + 13, none⟩ = some (.int .u32 (i32 (g32 (sp2 bs k) (k + 13)))))
            (by kernel_rfl) (by kernel_rfl) (fun _ _ d _ _ h => by cases d <;> exact h) ⟨hc0, hc2, hc8, hc13⟩ ?_
          repeat (refine plan_take ?_ rfl (Or.inl ⟨rfl, ?_⟩) ?_; rotate_left; (· intro W hS; (try dsimp only at hS); go_split_ands; go_simp; (try simp (disch := omega) only [w64_in]); (try rw [if_pos (by omega)]); (try with_reducible rfl)); (try simp only [Act.put, List.setIfInBounds_toArray, List.set_cons_zero, List.set_cons_succ]))
          refine plan_loud rfl ?_
          go_wp2_with (go_at_call 53; refine (rot _ 1 1 (by omega) (by decide) _).mono ?_; rintro e w' ⟨rfl, rfl⟩)
          refine ⟨⟨hc0, hc2, hc8, hc13⟩, ?_⟩
          repeat (refine plan_take ?_ rfl (Or.inl ⟨rfl, ?_⟩) ?_; rotate_left; (· intro W hS; (try dsimp only at hS); go_split_ands; go_simp; (try simp (disch := omega) only [w64_in]); (try rw [if_pos (by omega)]); (try with_reducible rfl)); (try simp only [Act.put, List.setIfInBounds_toArray, List.set_cons_zero, List.set_cons_succ]))
          refine plan_tail ?_
          clear t3 t8 t14 hc0 hc2 hc8 hc13
          simp only [List.drop_succ_cons, List.drop_zero]
          go_wp2
          clear t0
          go_roundw
          case rel => exact ⟨k + 1, by omega, by go_num, HW.out.set32 _ _, HR.out.set_ne (by omega) _ _, (HB.out.setCell (by simp; omega) _).drew⟩
          case measure => simp [intOf]; omega
        · have hw0 : Own wr (w.heap.size + 1 + 1) 90 (cs32 (sp2 bs 64)) := by
            have : k = 64 := by omega
            subst this; exact hw
          go_wp2_with (first | ((with_reducible refine at_dst (N := 50) rfl ?_); refine wpList_load_own rfl 90 _ rfl (g := w.heap.size + 1 + 1) (t := 90) (cs := cs32 (sp2 bs 64)) hw0 rfl Try.underlying90 rfl ?_ ?_; (· rw [Try.szW80, cs32_size, sp2_length])) | ((with_reducible refine at_store (N := 2) rfl ?_); refine wpList_store_own rfl 90 (.tmp 2) (.tmp 50) rfl hr (cs32 (sp2 bs 64)) rfl rfl ?_ ?_ (cs32_one _) ?_; (· rw [Try.szW80, cs32_size, sp2_length]); (· rw [cs32_size, cs32_size, sp2_length, z32_length])))
          refine bodyPost_ret (results_own rfl _ (hr.row _) rfl Try.underlying90 rfl (by rw [Try.szW80, cs32_size, sp2_length])) rfl ?_
          exact ⟨rfl, below_row hb (by omega) _⟩

set_option maxHeartbeats 400000 in
theorem mix (t : Nat) (b c d : U32) (ht : t < 80) (w : World) :
    Calls Try.prog 54 #[.int .i64 (t : Int), .int .u32 (i32 b), .int .u32 (i32 c), .int .u32 (i32 d)] w fun e w' => e = .returned (.int .u32 (i32 (mixF t b c d))) ∧ w = w' := by
  have hq : ((t : Int).tdiv 20) = ((t / 20 : Nat) : Int) := by rw [Int.tdiv_eq_ediv_of_nonneg (by omega)]; omega
  by_cases h0 : t / 20 = 0
  · have hm : mixF t b c d = d ^^^ (b &&& (c ^^^ d)) := by simp [mixF, h0]
    rw [hm]
    have e0 : (((t : Int) / 20) == 0) = true := by rw [beq_iff_eq]; omega
    clear hq h0 hm
    go_enter Try.func54, Try.ntmps54
    go_wp2
    go_ret
    exact ⟨by simp [i32_xor, i32_and], rfl⟩
  · by_cases h2 : t / 20 = 2
    · have hm : mixF t b c d = b &&& c ||| d &&& (b ||| c) := by simp [mixF, h2]
      rw [hm]
      have e0 : (((t : Int) / 20) == 0) = false := by rw [beq_eq_false_iff_ne]; omega
      have e2 : (((t : Int) / 20) == 2) = true := by rw [beq_iff_eq]; omega
      clear hq h0 hm h2
      go_enter Try.func54, Try.ntmps54
      go_wp2
      go_ret
      exact ⟨by simp [i32_xor, i32_and, i32_or], rfl⟩
    · have hm : mixF t b c d = b ^^^ c ^^^ d := by simp [mixF, h2, h0]
      rw [hm]
      have e0 : (((t : Int) / 20) == 0) = false := by rw [beq_eq_false_iff_ne]; omega
      have e2 : (((t : Int) / 20) == 2) = false := by rw [beq_eq_false_iff_ne]; omega
      clear hq h0 hm h2
      go_enter Try.func54, Try.ntmps54
      go_wp2
      go_ret
      exact ⟨by simp [i32_xor], rfl⟩

theorem lit5 (v : V5) : (#[.int .u32 (i32 v.a), .int .u32 (i32 v.b), .int .u32 (i32 v.c), .int .u32 (i32 v.d), .int .u32 (i32 v.e)] : Array Value) = cs32 v.l := rfl
set_option maxHeartbeats 400000 in
theorem start (w : World) :
    Calls Try.prog 32 #[] w fun e w' => e = .returned (.agg (cs32 startF.l)) ∧ Below w.heap.size w w' := by
  have hz := Try.zH5
  go_enter Try.func32, Try.ntmps32
  go_wp2_with ((with_reducible refine at_store (N := 0) rfl ?_); refine wpList_store_own rfl 51 (.tmp 0) (.tmp 1) rfl (g := w.heap.size) (t := 51) (old := cs32 (z32 5)) ?_ (cs32 startF.l) rfl rfl ?_ ?_ (cs32_one _) ?_; (· exact Own.new' rfl); (· rw [Try.szH5]; rfl); (· rfl))
  refine bodyPost_ret (results_own rfl _ ((Own.new' rfl).row _) rfl Try.underlying51 rfl (by rw [Try.szH5]; rfl)) rfl ?_
  exact ⟨rfl, below_row ((Below.refl _ _).alloc (Nat.le_refl _) _) (Nat.le_refl _) _⟩
end Go.Proofs.Ytlcaobnojbkmbaa
/- SHA-1's block, walked. -/
namespace Go.Proofs.Ytlcaobnojbkmbaa
open Go.RowKit
set_option linter.unusedVariables false
set_option linter.unusedSimpArgs false
attribute [local go_sem] i32_or i32_and i32_xor i32_wrap i32_add i32_of8
attribute [local go_sem ↓ high] i32_shl i32_shr

set_option maxRecDepth 100000 in
set_option maxHeartbeats 2000000 in
theorem block (h : V5) (bs : List U8) (hl : bs.length = 64) (w : World) :
    Calls Try.prog 34 #[.agg (cs32 h.l), .agg (cs8 bs)] w fun e w' => e = .returned (.agg (cs32 (blockF h bs).l)) ∧ Below w.heap.size w w' := by
  have hz := Try.zH5
  have hz4 := Try.zK4
  go_enter Try.func34, Try.ntmps34
  go_wp2_with (first | ((with_reducible refine at_store (N := 5) rfl ?_); refine wpList_store_own rfl 89 (.tmp 5) (.tmp 11) rfl (g := w.heap.size + 1 + 1 + 1) (t := 89) (old := cs32 (z32 4)) ?_ (cs32 ks) rfl rfl ?_ ?_ (cs32_one _) ?_; (· exact Own.new' (by simp)); (· rw [Try.szK4]; rfl); (· rfl)) | ((with_reducible refine at_dst (N := 12) rfl ?_); refine wpList_load_own rfl 51 _ rfl (g := w.heap.size) (t := 51) (cs := cs32 h.l) ?_ rfl Try.underlying51 rfl ?_ ?_; (· (repeat (first | (with_reducible assumption) | ((with_reducible refine Own.newc ?_ ?_); (· simp; done); (· rfl)) | (with_reducible refine Own.alloc ?_ _) | ((with_reducible refine Own.row_ne ?_ ?_ _); rotate_left; (· omega)) | ((with_reducible refine Own.set_ne ?_ ?_ _ _); rotate_left; (· omega)) | (with_reducible refine Has.row ?_ _) | ((with_reducible refine Has.newc ?_); (simp; done)) | (with_reducible refine Has.alloc ?_ _) | ((with_reducible refine Has.row_ne ?_ ?_ _); rotate_left; (· omega)) | ((with_reducible refine Has.set_ne ?_ ?_ _ _); rotate_left; (· omega))))); (· rw [Try.szH5]; rfl)) | ((with_reducible refine at_store (N := 6) rfl ?_); refine wpList_store_own rfl 51 (.tmp 6) (.tmp 12) rfl (g := w.heap.size + 1 + 1 + 1 + 1) (t := 51) (old := cs32 (z32 5)) ?_ (cs32 h.l) rfl rfl ?_ ?_ (cs32_one _) ?_; (· exact Own.new' (by simp)); (· rw [Try.szH5]; rfl); (· rfl)) | ((with_reducible refine at_dst (N := 13) rfl ?_); refine wpList_load_own rfl 64 _ rfl (g := w.heap.size + 1) (t := 64) (cs := cs8 bs) ?_ rfl Try.underlying64 rfl ?_ ?_; (· (repeat (first | (with_reducible assumption) | ((with_reducible refine Own.newc ?_ ?_); (· simp; done); (· rfl)) | (with_reducible refine Own.alloc ?_ _) | ((with_reducible refine Own.row_ne ?_ ?_ _); rotate_left; (· omega)) | ((with_reducible refine Own.set_ne ?_ ?_ _ _); rotate_left; (· omega)) | (with_reducible refine Has.row ?_ _) | ((with_reducible refine Has.newc ?_); (simp; done)) | (with_reducible refine Has.alloc ?_ _) | ((with_reducible refine Has.row_ne ?_ ?_ _); rotate_left; (· omega)) | ((with_reducible refine Has.set_ne ?_ ?_ _ _); rotate_left; (· omega))))); (· rw [Try.szB64, cs8_size, hl])) | (go_at_call 52; refine (spread bs hl _).mono ?_; rintro e w1 ⟨rfl, hb1⟩))
  have hO0 : Own w1 w.heap.size 51 (cs32 h.l) := Own.below (by (repeat (first | (with_reducible assumption) | ((with_reducible refine Own.newc ?_ ?_); (· simp; done); (· rfl)) | (with_reducible refine Own.alloc ?_ _) | ((with_reducible refine Own.row_ne ?_ ?_ _); rotate_left; (· omega)) | ((with_reducible refine Own.set_ne ?_ ?_ _ _); rotate_left; (· omega)) | (with_reducible refine Has.row ?_ _) | ((with_reducible refine Has.newc ?_); (simp; done)) | (with_reducible refine Has.alloc ?_ _) | ((with_reducible refine Has.row_ne ?_ ?_ _); rotate_left; (· omega)) | ((with_reducible refine Has.set_ne ?_ ?_ _ _); rotate_left; (· omega))))) hb1
  have hO2 : Own w1 (w.heap.size + 1 + 1) 51 (cs32 (z32 5)) := Own.below (by (repeat (first | (with_reducible assumption) | ((with_reducible refine Own.newc ?_ ?_); (· simp; done); (· rfl)) | (with_reducible refine Own.alloc ?_ _) | ((with_reducible refine Own.row_ne ?_ ?_ _); rotate_left; (· omega)) | ((with_reducible refine Own.set_ne ?_ ?_ _ _); rotate_left; (· omega)) | (with_reducible refine Has.row ?_ _) | ((with_reducible refine Has.newc ?_); (simp; done)) | (with_reducible refine Has.alloc ?_ _) | ((with_reducible refine Has.row_ne ?_ ?_ _); rotate_left; (· omega)) | ((with_reducible refine Has.set_ne ?_ ?_ _ _); rotate_left; (· omega))))) hb1
  have hO3 : Own w1 (w.heap.size + 1 + 1 + 1) 89 (cs32 ks) := Own.below (by (repeat (first | (with_reducible assumption) | ((with_reducible refine Own.newc ?_ ?_); (· simp; done); (· rfl)) | (with_reducible refine Own.alloc ?_ _) | ((with_reducible refine Own.row_ne ?_ ?_ _); rotate_left; (· omega)) | ((with_reducible refine Own.set_ne ?_ ?_ _ _); rotate_left; (· omega)) | (with_reducible refine Has.row ?_ _) | ((with_reducible refine Has.newc ?_); (simp; done)) | (with_reducible refine Has.alloc ?_ _) | ((with_reducible refine Has.row_ne ?_ ?_ _); rotate_left; (· omega)) | ((with_reducible refine Has.set_ne ?_ ?_ _ _); rotate_left; (· omega))))) hb1
  have hO4 : Own w1 (w.heap.size + 1 + 1 + 1 + 1) 51 (cs32 h.l) := Own.below (by (repeat (first | (with_reducible assumption) | ((with_reducible refine Own.newc ?_ ?_); (· simp; done); (· rfl)) | (with_reducible refine Own.alloc ?_ _) | ((with_reducible refine Own.row_ne ?_ ?_ _); rotate_left; (· omega)) | ((with_reducible refine Own.set_ne ?_ ?_ _ _); rotate_left; (· omega)) | (with_reducible refine Has.row ?_ _) | ((with_reducible refine Has.newc ?_); (simp; done)) | (with_reducible refine Has.alloc ?_ _) | ((with_reducible refine Has.row_ne ?_ ?_ _); rotate_left; (· omega)) | ((with_reducible refine Has.set_ne ?_ ?_ _ _); rotate_left; (· omega))))) hb1
  have hB : Below w.heap.size w w1 := below_then (below_row ((below_row ((((((Below.refl _ _).alloc (Nat.le_refl _) _).alloc (by simp) _).alloc (by simp; omega) _).alloc (by simp; omega) _)) (by omega) _).alloc (by simp; omega) _) (by omega) _) hb1 (by simp; omega)
  clear hb1
  clear hl
  go_loopw [15] (fun i wr => ∃ k : Nat, k ≤ 80 ∧ i = .int .i64 k ∧ Own wr w.heap.size 51 (cs32 h.l) ∧ Own wr (w.heap.size + 1 + 1) 51 (cs32 (z32 5)) ∧ Own wr (w.heap.size + 1 + 1 + 1) 89 (cs32 ks) ∧ Own wr (w.heap.size + 1 + 1 + 1 + 1) 51 (cs32 (roundsF (spreadF bs) h k).l) ∧ Below w.heap.size w wr)
    (fun i _ => 80 - (intOf i).toNat)
  case atStart => exact ⟨0, by omega, rfl, hO0, hO2, hO3, hO4, hB⟩
  case round =>
    clear hO0 hO2 hO3 hO4 hB
    obtain ⟨k, hk, rfl, h0, h2, h3, h4, hb⟩ := hrel
    by_cases hlt : k < 80
    · have hix := run_index_arr (P := Try.prog) 90 50 80 .u32 (cs32 (spreadF bs)) .i64 k _ Try.underlying90 Try.szU32 Try.underlying50 (by rw [cs32_size, spreadF_length]) (cs32_get (spreadF bs) k (by rw [spreadF_length]; omega))
      obtain ⟨v, hv⟩ : ∃ v, v = roundsF (spreadF bs) h k := ⟨_, rfl⟩
      rw [← hv] at h4
      have HV := Lib.hid hv
      clear hv
      have ca : wr.cell? ⟨w.heap.size + 1 + 1 + 1 + 1, 0, none⟩ = some (.int .u32 (i32 v.a)) := h4.cell32 0 (by simp [V5.l])
      have cb : wr.cell? ⟨w.heap.size + 1 + 1 + 1 + 1, 1, none⟩ = some (.int .u32 (i32 v.b)) := h4.cell32 1 (by simp [V5.l])
      have cc : wr.cell? ⟨w.heap.size + 1 + 1 + 1 + 1, 2, none⟩ = some (.int .u32 (i32 v.c)) := h4.cell32 2 (by simp [V5.l])
      have cd : wr.cell? ⟨w.heap.size + 1 + 1 + 1 + 1, 3, none⟩ = some (.int .u32 (i32 v.d)) := h4.cell32 3 (by simp [V5.l])
      have ce : wr.cell? ⟨w.heap.size + 1 + 1 + 1 + 1, 4, none⟩ = some (.int .u32 (i32 v.e)) := h4.cell32 4 (by simp [V5.l])
      have ck := h3.cell32 (k / 20) (by rw [ks_length]; omega)
      have H0 := Lib.hid h0; have H2 := Lib.hid h2; have H3 := Lib.hid h3; have H4 := Lib.hid h4; have HB := Lib.hid hb
      clear h0 h2 h3 h4 hb
      go_wp2
      have q0 : ((k : Int).tdiv 20) = ((k / 20 : Nat) : Int) := by rw [Int.tdiv_eq_ediv_of_nonneg (by omega)]; omega
      have t0 : ((k : Int) / 20).toNat = k / 20 := by omega
      refine wp_region_plan 23 [(true, 0), (true, 1), (true, 3), (true, 4), (true, 5), (true, 6), (true, 7), (true, 8), (true, 9), (true, 12), (true, 13), (true, 15), (true, 16), (true, 17), (true, 18), (true, 20), (false, 2), (false, 10), (true, 11), (true, 14), (true, 19), (true, 21), (true, 22)]
        (fun W => W.cell? ⟨w.heap.size + 1 + 1 + 1 + 1, 0, none⟩ = some (.int .u32 (i32 v.a)) ∧ W.cell? ⟨w.heap.size + 1 + 1 + 1 + 1, 1, none⟩ = some (.int .u32 (i32 v.b)) ∧ W.cell? ⟨w.heap.size + 1 + 1 + 1 + 1, 2, none⟩ = some (.int .u32 (i32 v.c)) ∧ W.cell? ⟨w.heap.size + 1 + 1 + 1 + 1, 3, none⟩ = some (.int .u32 (i32 v.d)) ∧ W.cell? ⟨w.heap.size + 1 + 1 + 1 + 1, 4, none⟩ = some (.int .u32 (i32 v.e)) ∧ W.cell? ⟨w.heap.size + 1 + 1 + 1, k / 20, none⟩ = some (.int .u32 (i32 (g32 ks (k / 20)))))
        (by kernel_rfl) (by kernel_rfl) (fun _ _ d _ _ h => by cases d <;> exact h) ⟨ca, cb, cc, cd, ce, ck⟩ ?_
      repeat (refine plan_take ?_ rfl (Or.inl ⟨rfl, ?_⟩) ?_; rotate_left; (· intro W hS; (try dsimp only at hS); go_split_ands; go_simp; (try simp (disch := omega) only [w64_in]); (try rw [if_pos (by omega)]); (try with_reducible rfl)); (try simp only [Act.put, List.setIfInBounds_toArray, List.set_cons_zero, List.set_cons_succ]))
      refine plan_loud rfl ?_
      go_wp2_with (go_at_call 53; refine (rot _ 5 5 (by omega) (by decide) _).mono ?_; rintro e w' ⟨rfl, rfl⟩)
      refine ⟨⟨ca, cb, cc, cd, ce, ck⟩, ?_⟩
      refine plan_loud rfl ?_
      go_wp2_with (go_at_call 54; refine (mix k _ _ _ (by omega) _).mono ?_; rintro e w' ⟨rfl, rfl⟩)
      refine ⟨⟨ca, cb, cc, cd, ce, ck⟩, ?_⟩
      repeat (refine plan_take ?_ rfl (Or.inl ⟨rfl, ?_⟩) ?_; rotate_left; (· intro W hS; (try dsimp only at hS); go_split_ands; go_simp; (try simp (disch := omega) only [w64_in]); (try rw [if_pos (by omega)]); (try with_reducible rfl)); (try simp only [Act.put, List.setIfInBounds_toArray, List.set_cons_zero, List.set_cons_succ]))
      refine plan_done (by simp) ?_
      go_wp2
      clear q0 t0
      refine wp_region_plan 11 [(true, 0), (true, 1), (true, 2), (true, 3), (true, 4), (true, 6), (true, 7), (true, 8), (true, 9), (false, 5), (true, 10)]
        (fun W => W.cell? ⟨w.heap.size + 1 + 1 + 1 + 1, 0, none⟩ = some (.int .u32 (i32 v.a)) ∧ W.cell? ⟨w.heap.size + 1 + 1 + 1 + 1, 1, none⟩ = some (.int .u32 (i32 v.b)) ∧ W.cell? ⟨w.heap.size + 1 + 1 + 1 + 1, 2, none⟩ = some (.int .u32 (i32 v.c)) ∧ W.cell? ⟨w.heap.size + 1 + 1 + 1 + 1, 3, none⟩ = some (.int .u32 (i32 v.d)))
        (by kernel_rfl) (by kernel_rfl) (fun _ _ d _ _ h => by cases d <;> exact h) ⟨ca, cb, cc, cd⟩ ?_
      repeat (refine plan_take ?_ rfl (Or.inl ⟨rfl, ?_⟩) ?_; rotate_left; (· intro W hS; (try dsimp only at hS); go_split_ands; go_simp; (try simp (disch := omega) only [w64_in]); (try rw [if_pos (by omega)]); (try with_reducible rfl)); (try simp only [Act.put, List.setIfInBounds_toArray, List.set_cons_zero, List.set_cons_succ]))
      refine plan_loud rfl ?_
      go_wp2_with (go_at_call 53; refine (rot _ 30 30 (by omega) (by decide) _).mono ?_; rintro e w' ⟨rfl, rfl⟩)
      refine ⟨⟨ca, cb, cc, cd⟩, ?_⟩
      repeat (refine plan_take ?_ rfl (Or.inl ⟨rfl, ?_⟩) ?_; rotate_left; (· intro W hS; (try dsimp only at hS); go_split_ands; go_simp; (try simp (disch := omega) only [w64_in]); (try rw [if_pos (by omega)]); (try with_reducible rfl)); (try simp only [Act.put, List.setIfInBounds_toArray, List.set_cons_zero, List.set_cons_succ]))
      refine plan_tail ?_
      simp only [List.drop_succ_cons, List.drop_zero]
      clear ca cb cc cd ce ck
      go_wp2_with ((with_reducible refine at_store (N := 6) rfl ?_); refine wpList_store_own rfl 51 (.tmp 6) (.tmp 51) rfl (g := w.heap.size + 1 + 1 + 1 + 1) (t := 51) (old := cs32 v.l) ?_ (cs32 (stepF (spreadF bs) k v).l) rfl rfl ?_ ?_ (cs32_one _) ?_; (· exact H4.out); (· rw [Try.szH5, cs32_size, V5.l_length]); (· rw [cs32_size, cs32_size, V5.l_length, V5.l_length]))
      go_roundw
      case rel => exact ⟨k + 1, by omega, by go_num, H0.out.row_ne (by omega) _, H2.out.row_ne (by omega) _, H3.out.row_ne (by omega) _, (by rw [show roundsF (spreadF bs) h (k + 1) = stepF (spreadF bs) k v from by rw [HV.out]; rfl]; exact H4.out.row _), below_row HB.out.drew.drew (by omega) _⟩
      case measure => simp [intOf]; omega
    · have h4' : Own wr (w.heap.size + 1 + 1 + 1 + 1) 51 (cs32 (addK (roundsF (spreadF bs) h 80).l h.l 0)) := by
        have : k = 80 := by omega
        subst this; exact h4
      clear h4 h3
      obtain ⟨r, hr⟩ : ∃ r, r = roundsF (spreadF bs) h 80 := ⟨_, rfl⟩
      rw [← hr] at h4'
      have HR := Lib.hid hr
      clear hr
      go_wp2
      clear hk hlt
      go_loopw [53] (fun i wr => ∃ k : Nat, k ≤ 5 ∧ i = .int .i64 k ∧ Own wr w.heap.size 51 (cs32 h.l) ∧ Own wr (w.heap.size + 1 + 1) 51 (cs32 (z32 5)) ∧ Own wr (w.heap.size + 1 + 1 + 1 + 1) 51 (cs32 (addK r.l h.l k)) ∧ Below w.heap.size w wr)
        (fun i _ => 5 - (intOf i).toNat)
      case atStart => exact ⟨0, by omega, rfl, h0, h2, h4', hb⟩
      case round =>
        clear h0 h2 h4' hb
        obtain ⟨k, hk, rfl, h0, h2, h4, hb⟩ := hrel
        by_cases hlt : k < 5
        · have c1 := h4.cell32 k (by rw [addK_length]; exact hlt)
          have c2 := h0.cell32 k hlt
          have f1 := h4.frozen k
          have hki : (k : Int) < 5 := by omega
          have H0 := Lib.hid h0; have H2 := Lib.hid h2; have H4 := Lib.hid h4; have HB := Lib.hid hb
          clear h0 h2 h4 hb
          go_wp2
          refine wp_region_plan 8 [(true, 0), (true, 1), (true, 2), (true, 3), (true, 4), (true, 5), (true, 6), (true, 7)]
            (fun W => W.cell? ⟨w.heap.size + 1 + 1 + 1 + 1, k, none⟩ = some (.int .u32 (i32 (g32 (addK r.l h.l k) k))) ∧ W.cell? ⟨w.heap.size, k, none⟩ = some (.int .u32 (i32 (g32 h.l k))))
            (by kernel_rfl) (by kernel_rfl) (fun _ _ d _ _ h => by cases d <;> exact h) ⟨c1, c2⟩ ?_
          repeat (refine plan_take ?_ rfl (Or.inl ⟨rfl, ?_⟩) ?_; rotate_left; (· intro W hS; (try dsimp only at hS); go_split_ands; go_simp; (try simp (disch := omega) only [w64_in]); (try rw [if_pos (by omega)]); (try with_reducible rfl)); (try simp only [Act.put, List.setIfInBounds_toArray, List.set_cons_zero, List.set_cons_succ]))
          refine plan_tail ?_
          simp only [List.drop_succ_cons, List.drop_zero]
          go_wp2
          go_roundw
          case rel => exact ⟨k + 1, by omega, by go_num, H0.out.set_ne (by omega) _ _, H2.out.set_ne (by omega) _ _, H4.out.set32 _ _, (HB.out.setCell (by simp; omega) _).drew⟩
          case measure => simp [intOf]; omega
        · have h5 : Own wr (w.heap.size + 1 + 1 + 1 + 1) 51 (cs32 (blockF h bs).l) := by
            have : k = 5 := by omega
            subst this
            rw [blockF, ← HR.out, ← addK_all]; exact h4
          go_wp2_with (first | ((with_reducible refine at_dst (N := 65) rfl ?_); refine wpList_load_own rfl 51 _ rfl (g := w.heap.size + 1 + 1 + 1 + 1) (t := 51) (cs := cs32 (blockF h bs).l) h5 rfl Try.underlying51 rfl ?_ ?_; (· rw [Try.szH5, cs32_size, V5.l_length])) | ((with_reducible refine at_store (N := 4) rfl ?_); refine wpList_store_own rfl 51 (.tmp 4) (.tmp 65) rfl h2 (cs32 (blockF h bs).l) rfl rfl ?_ ?_ (cs32_one _) ?_; (· rw [Try.szH5, cs32_size, V5.l_length]); (· rw [cs32_size, cs32_size, z32_length, V5.l_length])))
          refine bodyPost_ret (results_own rfl _ (h2.row _) rfl Try.underlying51 rfl (by rw [Try.szH5, cs32_size, V5.l_length])) rfl ?_
          exact ⟨rfl, below_row hb (by omega) _⟩
end Go.Proofs.Ytlcaobnojbkmbaa
/- What SHA-1's texts share. -/
namespace Go.Proofs.Ytlcaobnojbkmbaa
open Go.RowKit
set_option linter.unusedVariables false
set_option linter.unusedSimpArgs false
attribute [local go_sem] i32_or i32_and i32_xor i32_wrap i32_add i32_of8 i8_of32 i8_of64 i64_wrap
attribute [local go_sem ↓ high] i32_shl i32_shr i64_shr
theorem Try.inU8 : (Try.prog.info? 5).map (fun i => (i.zero, i.size, i.bytes)) = some (some (.int .u8 0), 1, 1) := by kernel_rfl
theorem Try.szS20 : (Try.prog.info? 41).map (·.size) = some 20 := by kernel_rfl
theorem Try.zS20 (w : World) : Sem.run Try.prog (zeroValue 41) w = .ok (.agg (cs8 (z8 20))) w := by kernel_rfl

end Go.Proofs.Ytlcaobnojbkmbaa
/- What the document's SHA-1 computes, walked: a block. -/
namespace Go.Proofs.Ytlcaobnojbkmbaa
open Go.RowKit
set_option linter.unusedVariables false
set_option linter.unusedSimpArgs false
attribute [local go_sem] i32_or i32_and i32_xor i32_wrap i32_add i32_of8 i8_of32 i8_of64 i64_wrap
attribute [local go_sem ↓ high] i32_shl i32_shr i64_shr

theorem Try.inU32 : (Try.prog.info? 50).map (fun i => (i.zero, i.size, i.bytes)) = some (some (.int .u32 0), 1, 4) := by kernel_rfl
theorem i32_ones : (4294967295 : Int) = i32 0xffffffff := rfl
theorem i32_xones (x : U32) : bits .xor .u32 (i32 x) 4294967295 = i32 (x ^^^ 0xffffffff) := by rw [i32_ones, i32_xor]
set_option maxHeartbeats 400000 in
theorem turned (x : U32) (n : Nat) (hn : n < 32) (w : World) :
    Calls Try.prog 46 #[.int .u32 (i32 x), .int .u64 (n : Int)] w fun e w' => e = .returned (.int .u32 (i32 (rol x n))) ∧ w = w' := by
  go_enter Try.func46, Try.ntmps46
  go_wp2
  go_ret
  exact ⟨by simp [i32_shlm, i32_shr', i32_or]; rfl, rfl⟩
attribute [local go_sem] i32_xones in
set_option maxHeartbeats 400000 in
theorem stepRef (t : Nat) (b c d : U32) (ht : t < 80) (w : World) :
    Calls Try.prog 47 #[.int .i64 (t : Int), .int .u32 (i32 b), .int .u32 (i32 c), .int .u32 (i32 d)] w fun e w' => e = .returned (.tuple #[.int .u32 (i32 (fR t b c d)), .int .u32 (i32 (kR t))]) ∧ w = w' := by
  rcases (by omega : t < 20 ∨ (20 ≤ t ∧ t < 40) ∨ (40 ≤ t ∧ t < 60) ∨ 60 ≤ t) with h | ⟨h, h2⟩ | ⟨h, h2⟩ | h
  · have h20 := h
    go_enter Try.func47, Try.ntmps47
    go_wp2
    go_ret2
    exact ⟨by simp [fR, kR, i32_or, i32_and, i32_xor, i32_ones, h20]; rfl, rfl⟩
  · have h20 : ¬ t < 20 := by omega
    go_enter Try.func47, Try.ntmps47
    go_wp2
    go_ret2
    exact ⟨by simp [fR, kR, i32_or, i32_and, i32_xor, i32_ones, h20, h2]; rfl, rfl⟩
  · have h20 : ¬ t < 20 := by omega
    have h40 : ¬ t < 40 := by omega
    go_enter Try.func47, Try.ntmps47
    go_wp2
    go_ret2
    exact ⟨by simp [fR, kR, i32_or, i32_and, i32_xor, i32_ones, h20, h2, h40]; rfl, rfl⟩
  · have h20 : ¬ t < 20 := by omega
    have h40 : ¬ t < 40 := by omega
    have h60 : ¬ t < 60 := by omega
    go_enter Try.func47, Try.ntmps47
    go_wp2
    go_ret2
    exact ⟨by simp [fR, kR, i32_or, i32_and, i32_xor, i32_ones, h20, h40, h60]; rfl, rfl⟩

set_option maxHeartbeats 400000 in
theorem startRef (w : World) :
    Calls Try.prog 25 #[] w fun e w' => e = .returned (.agg (cs32 startF.l)) ∧ Below w.heap.size w w' := by
  have hz := Try.zH5
  go_enter Try.func25, Try.ntmps25
  go_wp2_with ((with_reducible refine at_store (N := 0) rfl ?_); refine wpList_store_own rfl 51 (.tmp 0) (.tmp 1) rfl (g := w.heap.size) (t := 51) (old := cs32 (z32 5)) ?_ (cs32 startF.l) rfl rfl ?_ ?_ (cs32_one _) ?_; (· exact Own.newc rfl rfl); (· rw [Try.szH5]; rfl); (· rfl))
  refine bodyPost_ret (results_own rfl _ ((Own.newc rfl rfl : Own _ _ _ (cs32 (z32 5))).row _) rfl Try.underlying51 rfl (by rw [Try.szH5]; rfl)) rfl ?_
  exact ⟨rfl, below_row ((Below.refl _ _).alloc (Nat.le_refl _) _) (Nat.le_refl _) _⟩

set_option maxRecDepth 100000 in
set_option maxHeartbeats 4000000 in
theorem blockRef (h : V5) (bs : List U8) (A : Option Addr) (c : Nat) (hl : bs.length = 64) (w : World) (hbs : Sl v8 w A bs) :
    Calls Try.prog 27 #[.agg (cs32 h.l), .slice A 64 c] w fun e w' => e = .returned (.agg (cs32 (blockR h bs).l)) ∧ Below w.heap.size w w' := by
  have hz := Try.zH5
  obtain ⟨b, o, rfl, hcells⟩ := hbs.all (by omega)
  have HC := Lib.hid hcells
  have HL := Lib.hid hl
  clear hcells hbs hl
  go_enter Try.func27, Try.ntmps27
  go_wp2
  go_loopw [5, 6] (fun v i wr => ∃ t : Nat, t ≤ 80 ∧ i = .int .i64 t ∧ wr.ownsRow (w.heap.size + 1 + 1) 50 1 v (wR bs t).length ((wR bs t).map v32) ∧ Below (w.heap.size + 1 + 1) ((w.alloc (.cells (cs32 h.l) 51)).alloc (.cells #[.int .u32 0, .int .u32 0, .int .u32 0, .int .u32 0, .int .u32 0] 51)) wr)
    (fun _ i _ => 80 - (intOf i).toNat)
  case atStart => exact ⟨0, by omega, rfl, owns_made0 _ _ _ (by simp) (by simp), (Below.refl _ _).alloc (by simp) _⟩
  case round =>
    obtain ⟨t, ht, rfl, ho, hb⟩ := hrel
    obtain ⟨A2, c2, rfl, hc2, _, hsl⟩ := owns_sl ho
    rw [wR_length] at ho hc2 ⊢
    have hbw : Below w.heap.size w wr := ((((Below.refl _ w).alloc (Nat.le_refl _) _).alloc (by simp) _).trans (hb.mono (by omega)))
    by_cases hlt : t < 80
    · by_cases h16 : t < 16
      · have hq : ∀ j, j < 64 → wr.cell? ⟨b, o + j, none⟩ = some (.int .u8 (i8 (g8 bs j))) := fun j hj => by
          have hj' : j < bs.length := by rw [HL.out]; exact hj
          have := cell_below hbw (HC.out j bs[j] (List.getElem?_eq_getElem hj'))
          rw [this]; simp [v8, g8, hj']
        have q0 := hq (4 * t) (by omega)
        have q1 := hq (4 * t + 1) (by omega)
        have q2 := hq (4 * t + 2) (by omega)
        have q3 := hq (4 * t + 3) (by omega)
        have t0 : (4 * (t : Int)).toNat = 4 * t := by omega
        have t1 : (4 * (t : Int) + 1).toNat = 4 * t + 1 := by omega
        have t2 : (4 * (t : Int) + 2).toNat = 4 * t + 2 := by omega
        have t3 : (4 * (t : Int) + 3).toNat = 4 * t + 3 := by omega
        have HO := Lib.hid ho; have HB := Lib.hid hb
        clear ho hb hq hsl hbw
        go_wp2
        refine wp_region_plan 35 [(true, 0), (true, 1), (true, 2), (true, 3), (true, 4), (true, 5), (true, 6), (true, 7), (true, 8), (true, 9), (true, 10), (true, 11), (true, 12), (true, 13), (true, 14), (true, 15), (true, 16), (true, 17), (true, 18), (true, 19), (true, 20), (true, 21), (true, 22), (true, 23), (true, 24), (true, 25), (true, 26), (true, 27), (true, 28), (true, 29), (true, 30), (true, 31), (true, 32), (true, 33), (false, 34)]
          (fun W => W.cell? ⟨b, o + 4 * t, none⟩ = some (.int .u8 (i8 (g8 bs (4 * t)))) ∧ W.cell? ⟨b, o + (4 * t + 1), none⟩ = some (.int .u8 (i8 (g8 bs (4 * t + 1)))) ∧ W.cell? ⟨b, o + (4 * t + 2), none⟩ = some (.int .u8 (i8 (g8 bs (4 * t + 2)))) ∧ W.cell? ⟨b, o + (4 * t + 3), none⟩ = some (.int .u8 (i8 (g8 bs (4 * t + 3)))))
          (by kernel_rfl) (by kernel_rfl) (fun _ _ d _ _ h => by cases d <;> exact h) ⟨q0, q1, q2, q3⟩ ?_
        repeat (refine plan_take ?_ rfl (Or.inl ⟨rfl, ?_⟩) ?_; rotate_left; (· intro W hS; (try dsimp only at hS); go_split_ands; go_simp; (try simp (disch := omega) only [w64_in]); (try rw [if_pos (by omega)]); (try with_reducible rfl)); (try simp only [Act.put, List.setIfInBounds_toArray, List.set_cons_zero, List.set_cons_succ]))
        refine plan_loud rfl ?_
        go_wp2
        have hba : Below wr.heap.size wr ((wr.alloc (.cells #[.int .u32 (i32 (be32 bs t))] 50)).drew) := ((Below.refl _ wr).alloc (Nat.le_refl _) _).drew
        refine ⟨⟨cell_below hba q0, cell_below hba q1, cell_below hba q2, cell_below hba q3⟩, ?_⟩
        refine plan_tail ?_
        simp only [List.drop_succ_cons, List.drop_zero]
        clear q0 q1 q2 q3 t0 t1 t2 t3
        go_wp2_with ((with_reducible refine at_dst (N := 55) rfl ?_); refine wpList_app1 v32_one (w0 := (w.alloc (.cells (cs32 h.l) 51)).alloc (.cells #[.int .u32 0, .int .u32 0, .int .u32 0, .int .u32 0, .int .u32 0] 51)) (W := wr.drew) (w.heap.size + 1 + 1) rfl (.tmp 20) (.tmp 54) 66 50 (.int .u32 0) 4 rfl Try.underlying66 Try.inU32 rfl (by decide) (.slice A2 t c2) (wR bs t) (be32 bs t) rfl rfl rfl ?_ ?_ ?_ ?_ ?_; (· rw [wR_length]; exact owns_drew HO.out); (· exact HB.out.drew); (· have := HB.out.size; simp at this; simpa using this); (· rw [wR_length]; omega); intro v3 w3 ho3 hb3 hg3)
        go_roundw
        case rel => exact ⟨t + 1, by omega, by go_num, by rw [wR_low bs t h16]; exact ho3, hb3⟩
        case measure => simp [intOf]; omega
      · obtain ⟨k, rfl⟩ : ∃ k, t = k + 16 := ⟨t - 16, by omega⟩
        have hsz0 := hb.size
        obtain ⟨b2, o2, rfl, hc4⟩ := hsl.all (by rw [wR_length]; omega)
        obtain ⟨ws, hws⟩ : ∃ ws, ws = wR bs (k + 16) := ⟨_, rfl⟩
        have hwl : ws.length = k + 16 := by rw [hws, wR_length]
        rw [← hws] at ho hc4
        have hd : ∀ j, j < k + 16 → wr.cell? ⟨b2, o2 + j, none⟩ = some (.int .u32 (i32 (g32 ws j))) := fun j hj => by
          have hj' : j < ws.length := by rw [hwl]; exact hj
          rw [hc4 j ws[j] (List.getElem?_eq_getElem hj')]; simp [v32, g32, hj']
        have d0 := hd k (by omega)
        have d2 := hd (k + 2) (by omega)
        have d8 := hd (k + 8) (by omega)
        have d13 := hd (k + 13) (by omega)
        have t3 : ((k : Int) + 16 - 3).toNat = k + 13 := by omega
        have t8 : ((k : Int) + 16 - 8).toNat = k + 8 := by omega
        have t14 : ((k : Int) + 16 - 14).toNat = k + 2 := by omega
        have HO := Lib.hid ho; have HB := Lib.hid hb; have HWS := Lib.hid hws; have HWL := Lib.hid hwl
        clear ho hb hd hc4 hsl hbw hws hwl
        go_wp2
        refine wp_region_plan 26 [(true, 0), (true, 1), (true, 2), (true, 3), (true, 4), (true, 5), (true, 6), (true, 7), (true, 8), (true, 9), (true, 10), (true, 11), (true, 12), (true, 13), (true, 14), (true, 15), (true, 16), (true, 17), (true, 18), (true, 19), (true, 20), (true, 21), (true, 22), (true, 23), (false, 24), (false, 25)]
          (fun W => W.cell? ⟨b2, o2 + k, none⟩ = some (.int .u32 (i32 (g32 ws k))) ∧ W.cell? ⟨b2, o2 + (k + 2), none⟩ = some (.int .u32 (i32 (g32 ws (k + 2)))) ∧ W.cell? ⟨b2, o2 + (k + 8), none⟩ = some (.int .u32 (i32 (g32 ws (k + 8)))) ∧ W.cell? ⟨b2, o2 + (k + 13), none⟩ = some (.int .u32 (i32 (g32 ws (k + 13)))))
          (by kernel_rfl) (by kernel_rfl) (fun _ _ d _ _ h => by cases d <;> exact h) ⟨d0, d2, d8, d13⟩ ?_
        repeat (refine plan_take ?_ rfl (Or.inl ⟨rfl, ?_⟩) ?_; rotate_left; (· intro W hS; (try dsimp only at hS); go_split_ands; go_simp; (try simp (disch := omega) only [w64_in]); (try rw [if_pos (by omega)]); (try with_reducible rfl)); (try simp only [Act.put, List.setIfInBounds_toArray, List.set_cons_zero, List.set_cons_succ]))
        refine plan_loud rfl ?_
        go_wp2_with (go_at_call 46; refine (turned _ 1 (by omega) _).mono ?_; rintro e w' ⟨rfl, rfl⟩)
        refine ⟨⟨d0, d2, d8, d13⟩, ?_⟩
        refine plan_loud rfl ?_
        go_wp2
        have hba : Below wr.heap.size wr ((wr.alloc (.cells #[.int .u32 (i32 (wNext ws k))] 50)).drew) := ((Below.refl _ wr).alloc (Nat.le_refl _) _).drew
        refine ⟨⟨cell_below hba d0, cell_below hba d2, cell_below hba d8, cell_below hba d13⟩, ?_⟩
        refine plan_tail ?_
        simp only [List.drop_succ_cons, List.drop_zero]
        clear d0 d2 d8 d13 t3 t8 t14
        go_wp2_with ((with_reducible refine at_dst (N := 82) rfl ?_); refine wpList_app1 v32_one (w0 := (w.alloc (.cells (cs32 h.l) 51)).alloc (.cells #[.int .u32 0, .int .u32 0, .int .u32 0, .int .u32 0, .int .u32 0] 51)) (W := wr.drew) (w.heap.size + 1 + 1) rfl (.tmp 56) (.tmp 81) 66 50 (.int .u32 0) 4 rfl Try.underlying66 Try.inU32 rfl (by decide) (.slice (some ⟨b2, o2, none⟩) (k + 16) c2) (ws) (wNext ws k) rfl rfl rfl ?_ ?_ ?_ ?_ ?_; (· rw [HWL.out]; exact owns_drew HO.out); (· exact HB.out.drew); (· have := HB.out.size; simp at this; simpa using this); (· rw [HWL.out]; omega); intro v3 w3 ho3 hb3 hg3)
        go_roundw
        case rel => exact ⟨k + 16 + 1, by omega, by go_num, by rw [wR_high bs k, ← HWS.out]; exact ho3, hb3⟩
        case measure => simp [intOf]; omega
    · have ht80 : t = 80 := by omega
      have hszr : w.heap.size + 1 + 1 ≤ wr.heap.size := by have := hb.size; simpa using this
      have hsw : Sl v32 wr A2 (wRall bs) := by rw [ht80] at hsl; exact hsl
      obtain ⟨b2, o2, rfl, hc4⟩ := hsw.all (by rw [wRall_length]; omega)
      have hO0 : Own wr w.heap.size 51 (cs32 h.l) := (hb.block w.heap.size (by omega)).trans ((Own.newc rfl rfl).alloc _)
      have hO1 : Own wr (w.heap.size + 1) 51 (cs32 (z32 5)) := (hb.block (w.heap.size + 1) (by omega)).trans (Own.newc (by simp) rfl)
      clear ho hb hsl hsw ht hc2
      go_wp2_with (first | ((with_reducible refine at_dst (N := 83) rfl ?_); refine wpList_load_own rfl 51 _ rfl (g := w.heap.size) (t := 51) (cs := cs32 h.l) ?_ rfl Try.underlying51 rfl ?_ ?_; (· exact hO0); (· rw [Try.szH5, cs32_size, V5.l_length])) | ((with_reducible refine at_store (N := 7) rfl ?_); refine wpList_store_own rfl 51 (.tmp 7) (.tmp 83) rfl (g := wr.heap.size) (t := 51) (old := cs32 (z32 5)) ?_ (cs32 h.l) rfl rfl ?_ ?_ (cs32_one _) ?_; (· exact Own.newc rfl rfl); (· rw [Try.szH5, cs32_size, V5.l_length]); (· rw [cs32_size, cs32_size, z32_length, V5.l_length])))
      have hB : Below w.heap.size w ((wr.alloc (.cells #[.int .u32 0, .int .u32 0, .int .u32 0, .int .u32 0, .int .u32 0] 51)).setRow wr.heap.size (cs32 h.l)) := below_row (hbw.alloc (by omega) _) (by omega) _
      have hO2 : Own ((wr.alloc (.cells #[.int .u32 0, .int .u32 0, .int .u32 0, .int .u32 0, .int .u32 0] 51)).setRow wr.heap.size (cs32 h.l)) wr.heap.size 51 (cs32 (roundsR (wRall bs) h 0).l) := (Own.newc rfl rfl : Own (wr.alloc (.cells #[.int .u32 0, .int .u32 0, .int .u32 0, .int .u32 0, .int .u32 0] 51)) wr.heap.size 51 (cs32 (z32 5))).row (cs32 h.l)
      have hO0' := (hO0.alloc (.cells #[.int .u32 0, .int .u32 0, .int .u32 0, .int .u32 0, .int .u32 0] 51)).row_ne (g' := wr.heap.size) (by omega) (cs32 h.l)
      have hO1' := (hO1.alloc (.cells #[.int .u32 0, .int .u32 0, .int .u32 0, .int .u32 0, .int .u32 0] 51)).row_ne (g' := wr.heap.size) (by omega) (cs32 h.l)
      have hc5 : ∀ j, j < 80 → b2 < wr.heap.size ∧ wr.cell? ⟨b2, o2 + j, none⟩ = some (.int .u32 (i32 (g32 (wRall bs) j))) := fun j hj => by
        have hj' : j < (wRall bs).length := by rw [wRall_length]; exact hj
        have h1 := hc4 j (wRall bs)[j] (List.getElem?_eq_getElem hj')
        exact ⟨World.block_lt_of_cell? wr _ h1, by rw [h1]; simp [v32, g32, hj']⟩
      obtain ⟨wo, hwo⟩ : ∃ wo : World, wo = wr := ⟨_, rfl⟩
      obtain ⟨gv, hgv⟩ : ∃ gv, gv = wr.heap.size := ⟨_, rfl⟩
      have hgb : w.heap.size + 1 < gv := by omega
      have hc6 : ∀ j, j < 80 → ((wr.alloc (.cells #[.int .u32 0, .int .u32 0, .int .u32 0, .int .u32 0, .int .u32 0] 51)).setRow wr.heap.size (cs32 h.l)).cell? ⟨b2, o2 + j, none⟩ = some (.int .u32 (i32 (g32 (wRall bs) j))) := fun j hj => by
        rw [cell_setRow_other _ _ _ _ (by have := (hc5 j hj).1; simp; omega)]
        exact cell_below ((Below.refl _ wr).alloc (Nat.le_refl _) _) (hc5 j hj).2
      have hbv : b2 ≠ gv := by have := (hc5 0 (by omega)).1; omega
      rw [← hgv] at hB hO2 hO0' hO1' hc6 ⊢
      have HC6 := Lib.hid hc6
      clear hc5 hc4 hO0 hO1 hbw hwo hgv hc6
      (try simp only [Act.put])
      go_wp2
      go_loopw [8] (fun i wr => ∃ t : Nat, t ≤ 80 ∧ i = .int .i64 t ∧ Own wr w.heap.size 51 (cs32 h.l) ∧ Own wr (w.heap.size + 1) 51 (cs32 (z32 5)) ∧ Own wr gv 51 (cs32 (roundsR (wRall bs) h t).l) ∧ Below w.heap.size w wr ∧ Hid (∀ j, j < 80 → wr.cell? ⟨b2, o2 + j, none⟩ = some (.int .u32 (i32 (g32 (wRall bs) j)))))
        (fun i _ => 80 - (intOf i).toNat)
      case atStart => exact ⟨0, by omega, rfl, hO0', hO1', hO2, hB, HC6⟩
      case round =>
        clear hO0' hO1' hO2 hB HC6
        obtain ⟨k, hk, rfl, h0, h1, h4, hb, HC⟩ := hrel
        by_cases hlt : k < 80
        · obtain ⟨v, hv⟩ : ∃ v, v = roundsR (wRall bs) h k := ⟨_, rfl⟩
          rw [← hv] at h4
          have HV := Lib.hid hv
          clear hv
          have ca : wr.cell? ⟨gv, 0, none⟩ = some (.int .u32 (i32 v.a)) := h4.cell32 0 (by simp [V5.l])
          have cb : wr.cell? ⟨gv, 1, none⟩ = some (.int .u32 (i32 v.b)) := h4.cell32 1 (by simp [V5.l])
          have cc : wr.cell? ⟨gv, 2, none⟩ = some (.int .u32 (i32 v.c)) := h4.cell32 2 (by simp [V5.l])
          have cd : wr.cell? ⟨gv, 3, none⟩ = some (.int .u32 (i32 v.d)) := h4.cell32 3 (by simp [V5.l])
          have ce : wr.cell? ⟨gv, 4, none⟩ = some (.int .u32 (i32 v.e)) := h4.cell32 4 (by simp [V5.l])
          have cw := HC.out k (by omega)
          have H0 := Lib.hid h0; have H1 := Lib.hid h1; have H4 := Lib.hid h4; have HB := Lib.hid hb
          clear h0 h1 h4 hb
          go_wp2_with (go_at_call 47; refine (stepRef k _ _ _ (by omega) _).mono ?_; rintro e w' ⟨rfl, rfl⟩)
          refine wp_region_plan 16 [(true, 0), (true, 1), (true, 3), (true, 5), (true, 6), (true, 8), (true, 10), (true, 11), (true, 12), (true, 13), (false, 2), (true, 4), (true, 7), (true, 9), (true, 14), (true, 15)]
            (fun W => W.cell? ⟨gv, 0, none⟩ = some (.int .u32 (i32 v.a)) ∧ W.cell? ⟨gv, 4, none⟩ = some (.int .u32 (i32 v.e)) ∧ W.cell? ⟨b2, o2 + k, none⟩ = some (.int .u32 (i32 (g32 (wRall bs) k))))
            (by kernel_rfl) (by kernel_rfl) (fun _ _ d _ _ h => by cases d <;> exact h) ⟨ca, ce, cw⟩ ?_
          repeat (refine plan_take ?_ rfl (Or.inl ⟨rfl, ?_⟩) ?_; rotate_left; (· intro W hS; (try dsimp only at hS); go_split_ands; go_simp; (try simp (disch := omega) only [w64_in]); (try rw [if_pos (by omega)]); (try with_reducible rfl)); (try simp only [Act.put, List.setIfInBounds_toArray, List.set_cons_zero, List.set_cons_succ]))
          refine plan_loud rfl ?_
          go_wp2_with (go_at_call 46; refine (turned _ 5 (by omega) _).mono ?_; rintro e w' ⟨rfl, rfl⟩)
          refine ⟨⟨ca, ce, cw⟩, ?_⟩
          repeat (refine plan_take ?_ rfl (Or.inl ⟨rfl, ?_⟩) ?_; rotate_left; (· intro W hS; (try dsimp only at hS); go_split_ands; go_simp; (try simp (disch := omega) only [w64_in]); (try rw [if_pos (by omega)]); (try with_reducible rfl)); (try simp only [Act.put, List.setIfInBounds_toArray, List.set_cons_zero, List.set_cons_succ]))
          refine plan_done (by simp) ?_
          go_wp2
          refine wp_region_plan 11 [(true, 0), (true, 1), (true, 2), (true, 3), (true, 4), (true, 6), (true, 7), (true, 8), (true, 9), (false, 5), (true, 10)]
            (fun W => W.cell? ⟨gv, 0, none⟩ = some (.int .u32 (i32 v.a)) ∧ W.cell? ⟨gv, 1, none⟩ = some (.int .u32 (i32 v.b)) ∧ W.cell? ⟨gv, 2, none⟩ = some (.int .u32 (i32 v.c)) ∧ W.cell? ⟨gv, 3, none⟩ = some (.int .u32 (i32 v.d)))
            (by kernel_rfl) (by kernel_rfl) (fun _ _ d _ _ h => by cases d <;> exact h) ⟨ca, cb, cc, cd⟩ ?_
          repeat (refine plan_take ?_ rfl (Or.inl ⟨rfl, ?_⟩) ?_; rotate_left; (· intro W hS; (try dsimp only at hS); go_split_ands; go_simp; (try simp (disch := omega) only [w64_in]); (try rw [if_pos (by omega)]); (try with_reducible rfl)); (try simp only [Act.put, List.setIfInBounds_toArray, List.set_cons_zero, List.set_cons_succ]))
          refine plan_loud rfl ?_
          go_wp2_with (go_at_call 46; refine (turned _ 30 (by omega) _).mono ?_; rintro e w' ⟨rfl, rfl⟩)
          refine ⟨⟨ca, cb, cc, cd⟩, ?_⟩
          repeat (refine plan_take ?_ rfl (Or.inl ⟨rfl, ?_⟩) ?_; rotate_left; (· intro W hS; (try dsimp only at hS); go_split_ands; go_simp; (try simp (disch := omega) only [w64_in]); (try rw [if_pos (by omega)]); (try with_reducible rfl)); (try simp only [Act.put, List.setIfInBounds_toArray, List.set_cons_zero, List.set_cons_succ]))
          refine plan_tail ?_
          simp only [List.drop_succ_cons, List.drop_zero]
          clear ca cb cc cd ce cw
          go_wp2_with ((with_reducible refine at_store (N := 7) rfl ?_); refine wpList_store_own rfl 51 (.tmp 7) (.tmp 124) rfl (g := gv) (t := 51) (old := cs32 v.l) ?_ (cs32 (stepR (wRall bs) k v).l) rfl rfl ?_ ?_ (cs32_one _) ?_; (· exact H4.out); (· rw [Try.szH5, cs32_size, V5.l_length]); (· rw [cs32_size, cs32_size, V5.l_length, V5.l_length]))
          go_roundw
          case rel =>
            exact ⟨k + 1, by omega, by go_num, H0.out.row_ne (by omega) _, H1.out.row_ne (by omega) _, (by rw [show roundsR (wRall bs) h (k + 1) = stepR (wRall bs) k v from by rw [HV.out]; rfl]; exact H4.out.row _), below_row HB.out.drew.drew (by omega) _, fun j hj => by rw [cell_setRow_other _ _ _ _ hbv]; exact HC.out j hj⟩
          case measure => simp [intOf]; omega
        · have h4' : Own wr gv 51 (cs32 (addK (roundsR (wRall bs) h 80).l h.l 0)) := by
            have : k = 80 := by omega
            subst this; exact h4
          clear h4 HC
          obtain ⟨r, hr⟩ : ∃ r, r = roundsR (wRall bs) h 80 := ⟨_, rfl⟩
          rw [← hr] at h4'
          have HR := Lib.hid hr
          clear hr
          go_wp2
          clear hk hlt
          go_loopw [12] (fun i wr => ∃ k : Nat, k ≤ 5 ∧ i = .int .i64 k ∧ Own wr w.heap.size 51 (cs32 h.l) ∧ Own wr (w.heap.size + 1) 51 (cs32 (z32 5)) ∧ Own wr gv 51 (cs32 (addK r.l h.l k)) ∧ Below w.heap.size w wr)
            (fun i _ => 5 - (intOf i).toNat)
          case atStart => exact ⟨0, by omega, rfl, h0, h1, h4', hb⟩
          case round =>
            clear h0 h1 h4' hb
            obtain ⟨k, hk, rfl, h0, h1, h4, hb⟩ := hrel
            by_cases hlt : k < 5
            · have c1 := h4.cell32 k (by rw [addK_length]; exact hlt)
              have c2 := h0.cell32 k hlt
              have f1 := h4.frozen k
              have hki : (k : Int) < 5 := by omega
              have H0 := Lib.hid h0; have H1 := Lib.hid h1; have H4 := Lib.hid h4; have HB := Lib.hid hb
              clear h0 h1 h4 hb
              go_wp2
              refine wp_region_plan 9 [(true, 0), (true, 1), (true, 2), (true, 3), (true, 4), (true, 5), (true, 6), (true, 7), (true, 8)]
                (fun W => W.cell? ⟨gv, k, none⟩ = some (.int .u32 (i32 (g32 (addK r.l h.l k) k))) ∧ W.cell? ⟨w.heap.size, k, none⟩ = some (.int .u32 (i32 (g32 h.l k))))
                (by kernel_rfl) (by kernel_rfl) (fun _ _ d _ _ h => by cases d <;> exact h) ⟨c1, c2⟩ ?_
              repeat (refine plan_take ?_ rfl (Or.inl ⟨rfl, ?_⟩) ?_; rotate_left; (· intro W hS; (try dsimp only at hS); go_split_ands; go_simp; (try simp (disch := omega) only [w64_in]); (try rw [if_pos (by omega)]); (try with_reducible rfl)); (try simp only [Act.put, List.setIfInBounds_toArray, List.set_cons_zero, List.set_cons_succ]))
              refine plan_tail ?_
              simp only [List.drop_succ_cons, List.drop_zero]
              go_wp2
              go_roundw
              case rel => exact ⟨k + 1, by omega, by go_num, H0.out.set_ne (by omega) _ _, H1.out.set_ne (by omega) _ _, H4.out.set32 _ _, (HB.out.setCell (by simp; omega) _).drew⟩
              case measure => simp [intOf]; omega
            · have h5 : Own wr gv 51 (cs32 (blockR h bs).l) := by
                have : k = 5 := by omega
                subst this
                rw [blockR, ← HR.out, ← addK_all]; exact h4
              go_wp2_with (first | ((with_reducible refine at_dst (N := 138) rfl ?_); refine wpList_load_own rfl 51 _ rfl (g := gv) (t := 51) (cs := cs32 (blockR h bs).l) ?_ rfl Try.underlying51 rfl ?_ ?_; (· exact h5); (· rw [Try.szH5, cs32_size, V5.l_length])) | ((with_reducible refine at_store (N := 4) rfl ?_); refine wpList_store_own rfl 51 (.tmp 4) (.tmp 138) rfl (g := w.heap.size + 1) (t := 51) (old := cs32 (z32 5)) ?_ (cs32 (blockR h bs).l) rfl rfl ?_ ?_ (cs32_one _) ?_; (· exact h1); (· rw [Try.szH5, cs32_size, V5.l_length]); (· rw [cs32_size, cs32_size, z32_length, V5.l_length])))
              refine bodyPost_ret (results_own rfl _ (h1.row _) rfl Try.underlying51 rfl (by rw [Try.szH5, cs32_size, V5.l_length])) rfl ?_
              exact ⟨rfl, below_row hb (by omega) _⟩
end Go.Proofs.Ytlcaobnojbkmbaa
/- The document's padded bytes, plainly. -/
namespace Go.Proofs.Ytlcaobnojbkmbaa

def zcG64 (L : Nat) : Nat := (120 - L % 64) % 64
def lenG64 (M : U64) (j : Nat) : List U8 := (List.range j).map fun k => if 7 - k < 8 then (M >>> (8 * (7 - k))).setWidth 8 else 0
theorem lenG64_length (M : U64) (j : Nat) : (lenG64 M j).length = j := by simp [lenG64]
theorem lenG64_succ (M : U64) (j : Nat) : lenG64 M (j + 1) = lenG64 M j ++ [if 7 - j < 8 then (M >>> (8 * (7 - j))).setWidth 8 else 0] := by simp [lenG64, List.range_succ]
def padG64 (bs : List U8) : List U8 := bs ++ [128] ++ List.replicate (zcG64 (bs.length + 1)) 0 ++ lenG64 (BitVec.ofNat 64 (bs.length * 8)) 8
theorem padG64_length (bs : List U8) : (padG64 bs).length = 64 * ((padG64 bs).length / 64) := by
  simp only [padG64, List.length_append, List.length_replicate, lenG64_length, List.length_singleton, zcG64]
  omega
theorem padG64_length_le (bs : List U8) : (padG64 bs).length ≤ bs.length + 73 := by
  simp only [padG64, List.length_append, List.length_replicate, lenG64_length, List.length_singleton, zcG64]
  omega

theorem lenG_B (M : U64) : lenG64 M 8 = lenB M 8 := by
  simp [lenG64, lenB, List.range_succ]
theorem padG_F (bs : List U8) : padG64 bs = padF bs := by
  rw [padG64, padF, lenG_B]; rfl
end Go.Proofs.Ytlcaobnojbkmbaa
/- The document's padded bytes, walked: blocks of 64, a length of 8 bytes. -/
namespace Go.Proofs.Ytlcaobnojbkmbaa
open Go.RowKit
set_option linter.unusedVariables false
set_option linter.unusedSimpArgs false
attribute [local go_sem] i8_of64 i64_wrap
attribute [local go_sem ↓ high] i64_shr
set_option maxRecDepth 100000 in
set_option maxHeartbeats 2000000 in
theorem padded64 (bs : List U8) (A : Option Addr) (c : Nat) (hbl : bs.length ≤ 1000000) (w : World) (hbs : Sl v8 w A bs) :
    Calls Try.prog 26 #[.slice A bs.length c, .int .i64 64, .int .i64 8] w (RetSl v8 w (padG64 bs)) := by
  obtain ⟨M, hM⟩ : ∃ M : U64, M = BitVec.ofNat 64 (bs.length * 8) := ⟨_, rfl⟩
  have hMi : (bs.length : Int) * 8 = i64 M := by
    rw [hM, i64, BitVec.toNat_ofNat, Nat.mod_eq_of_lt (by omega)]; omega
  have HM := Lib.hid hM
  clear hM
  go_enter Try.func26, Try.ntmps26
  go_wp2_with (first | ((with_reducible refine at_dst (N := 13) rfl ?_); refine wpList_apps v8_one (w0 := w) (w.heap.size) rfl (.tmp 11) (.tmp 12) 22 5 (.int .u8 0) 1 rfl Try.underlying22 Try.inU8 rfl (by decide) (.slice (some ⟨w.heap.size, 0, none⟩) 0 0) ([]) (bs) (A) (c) rfl rfl ?_ ?_ ?_ ?_ ?_ ?_; (· exact owns_made0 _ _ _ rfl (Nat.le_refl _)); (· exact hbs.below ((Below.refl _ _).alloc (Nat.le_refl _) _)); (· exact (Below.refl _ _).alloc (Nat.le_refl _) _); (· simp); (· simp; omega); intro v1 w1 ho1 hb1 hg1) | ((with_reducible refine at_dst (N := 16) rfl ?_); refine wpList_app1 v8_one (w0 := w) (w.heap.size) rfl (.tmp 14) (.tmp 15) 22 5 (.int .u8 0) 1 rfl Try.underlying22 Try.inU8 rfl (by decide) (v1) ([] ++ bs) (128) rfl rfl rfl ?_ ?_ ?_ ?_ ?_; (· exact ho1); (· exact hb1); (· exact hb1.size); (· simp; omega); intro v2 w2 ho2 hb2 hg2))
  clear ho1 hb1 hg1 hg2
  obtain ⟨p0, hp0⟩ : ∃ p0, p0 = bs ++ [(128 : U8)] := ⟨_, rfl⟩
  simp only [List.nil_append] at ho2
  rw [← hp0] at ho2
  have hpl : p0.length = bs.length + 1 := by rw [hp0]; simp
  have HP := Lib.hid hp0
  clear hp0
  obtain ⟨L, hL⟩ : ∃ L, L = p0.length := ⟨_, rfl⟩
  have hL2 : L ≤ 1000001 := by omega
  have HL := Lib.hid hL
  have HPL := Lib.hid hpl
  clear hL hpl
  go_loopw [7] (fun p wr => ∃ j : Nat, j ≤ zcG64 L ∧ wr.ownsRow w.heap.size 5 1 p (p0 ++ List.replicate j (0 : U8)).length ((p0 ++ List.replicate j (0 : U8)).map v8) ∧ Below w.heap.size w wr)
    (fun p _ => L + 64 - lenOf p)
  case atStart => exact ⟨0, by omega, by simpa using ho2, hb2⟩
  case round =>
    clear ho2 hb2
    obtain ⟨j, hj, ho, hb⟩ := hrel
    obtain ⟨Ap, cp, rfl, hcp⟩ := owns_slice ho
    obtain ⟨n, hn⟩ : ∃ n, n = (p0 ++ List.replicate j (0 : U8)).length := ⟨_, rfl⟩
    have hn1 : n = L + j := by rw [hn, HL.out]; simp
    rw [← hn] at ho hcp ⊢
    have HN := Lib.hid hn1
    have HN2 := Lib.hid hn
    have hj64 : j < 64 := by unfold zcG64 at hj; omega
    have hnle : n ≤ 1000200 := by omega
    clear hn hn1
    by_cases hlt : j < zcG64 L
    · have he : ((n : Int) % 64 != 56) = true := by rw [bne_iff_ne]; have := HN.out; unfold zcG64 at hlt; omega
      have HO := Lib.hid ho; have HB := Lib.hid hb
      clear ho hb
      go_wp2_with ((with_reducible refine at_dst (N := 27) rfl ?_); refine wpList_app1 v8_one (w0 := w) (w.heap.size) rfl (.tmp 25) (.tmp 26) 22 5 (.int .u8 0) 1 rfl Try.underlying22 Try.inU8 rfl (by decide) (.slice Ap n cp) (p0 ++ List.replicate j (0 : U8)) (0) rfl rfl rfl ?_ ?_ ?_ ?_ ?_; (· rw [← HN2.out]; exact HO.out); (· exact HB.out); (· exact HB.out.size); (· rw [← HN2.out]; omega); intro v3 w3 ho3 hb3 hg3)
      go_roundw
      case rel => exact ⟨j + 1, by omega, by rw [List.replicate_succ', ← List.append_assoc]; exact ho3, hb3⟩
      case measure =>
        obtain ⟨A3, c3, rfl, _⟩ := owns_slice ho3
        have h1 := HN.out
        have h4 := HL.out
        simp [lenOf]
        omega
    · have he : ((n : Int) % 64 != 56) = false := by rw [bne_eq_false_iff_eq]; have := HN.out; unfold zcG64 at hlt hj; omega
      go_wp2
      clear he
      have hj2 : j = zcG64 L := by omega
      have hp1 : n = (p0 ++ List.replicate (zcG64 L) (0 : U8)).length := by rw [← hj2]; exact HN2.out
      have ho' : wr.ownsRow w.heap.size 5 1 (.slice Ap n cp) (p0 ++ List.replicate (zcG64 L) (0 : U8) ++ lenG64 M 0).length ((p0 ++ List.replicate (zcG64 L) (0 : U8) ++ lenG64 M 0).map v8) := by
        have ho2 : wr.ownsRow w.heap.size 5 1 (.slice Ap n cp) (p0 ++ List.replicate j (0 : U8)).length ((p0 ++ List.replicate j (0 : U8)).map v8) := by
          rw [← HN2.out]; exact ho
        rw [← hj2]; simpa [lenG64] using ho2
      obtain ⟨p1, hp1'⟩ : ∃ p1, p1 = p0 ++ List.replicate (zcG64 L) (0 : U8) := ⟨_, rfl⟩
      rw [← hp1'] at ho' hp1
      have HP1 := Lib.hid hp1'
      have HN3 := Lib.hid hp1
      clear hp1' hp1 hj2 hlt hj ho hcp
      go_loopw [7, 9] (fun p i wr => ∃ k : Nat, k ≤ 8 ∧ i = .int .i64 (7 - (k : Int)) ∧ wr.ownsRow w.heap.size 5 1 p (p1 ++ lenG64 M k).length ((p1 ++ lenG64 M k).map v8) ∧ Below w.heap.size w wr)
        (fun _ i _ => (intOf i + 1).toNat)
      case atStart => exact ⟨0, by omega, by simp, ho', hb⟩
      case round =>
        clear ho' hb
        obtain ⟨k, hk, rfl, ho, hb⟩ := hrel
        obtain ⟨Aq, cq, rfl, hcq⟩ := owns_slice ho
        obtain ⟨m, hm⟩ : ∃ m, m = (p1 ++ lenG64 M k).length := ⟨_, rfl⟩
        have hmle : m ≤ 1000300 := by rw [hm, List.length_append, lenG64_length, ← HN3.out]; omega
        rw [← hm] at ho hcq ⊢
        have HM2 := Lib.hid hm
        clear hm
        by_cases hlt : k < 8
        · have hge : 0 ≤ 7 - (k : Int) := by omega
          by_cases h8 : 7 - k < 8
          · have htn : (8 * (7 - (k : Int))).toNat = 8 * (7 - k) := by omega
            have h8' : 7 - (k : Int) < 8 := by omega
            have HO := Lib.hid ho; have HB := Lib.hid hb
            clear ho hb
            go_wp2_with ((with_reducible refine at_dst (N := 49) rfl ?_); refine wpList_app1 v8_one (w0 := w) (w.heap.size) rfl (.tmp 46) (.tmp 48) 22 5 (.int .u8 0) 1 rfl Try.underlying22 Try.inU8 rfl (by decide) (.slice Aq m cq) (p1 ++ lenG64 M k) ((M >>> (8 * (7 - k))).setWidth 8) (v8_shr64 _ _) rfl rfl ?_ ?_ ?_ ?_ ?_; (· rw [← HM2.out]; exact HO.out); (· exact HB.out); (· exact HB.out.size); (· rw [← HM2.out]; omega); intro v3 w3 ho3 hb3 hg3)
            go_roundw
            case rel => exact ⟨k + 1, by omega, by go_num, by rw [lenG64_succ, if_pos h8, ← List.append_assoc]; exact ho3, hb3⟩
            case measure => simp [intOf]; omega
          · exfalso; omega
        · have hge : ¬ (0 ≤ 7 - (k : Int)) := by omega
          have hk8 : k = 8 := by omega
          have hfin : p1 ++ lenG64 M 8 = padG64 bs := by rw [HP1.out, padG64, HP.out, HM.out, HL.out, HP.out]; simp
          have hml : (padG64 bs).length = m := by rw [← hfin, HM2.out, hk8]
          have hres : RetSl v8 w (padG64 bs) (.returned (.slice Aq m cq)) wr := by
            have ho2 : wr.ownsRow w.heap.size 5 1 (.slice Aq m cq) m ((padG64 bs).map v8) := by rw [← hfin, ← hk8]; exact ho
            obtain ⟨A', c', he, h1, h2, h3⟩ := owns_sl ho2
            exact ⟨A', c', by rw [he, hml], by omega, h3, hb⟩
          have HR := Lib.hid hres
          clear hres hml hfin hk8 ho hb hcq
          go_wp2
          go_ret
          exact HR.out
end Go.Proofs.Ytlcaobnojbkmbaa
/- The document's SHA-1 sum, walked. -/
namespace Go.Proofs.Ytlcaobnojbkmbaa
open Go.RowKit
set_option linter.unusedVariables false
set_option linter.unusedSimpArgs false
attribute [local go_sem] i32_or i32_and i32_xor i32_wrap i32_add i32_of8 i8_of32 i8_of64 i64_wrap
attribute [local go_sem ↓ high] i32_shl i32_shr i64_shr
theorem hashR_step (n : Nat) (h : V5) (p : List U8) : blocksR (n + 1) h p = blocksR n (blockR h (p.take 64)) (p.drop 64) := rfl
set_option maxRecDepth 100000 in
set_option maxHeartbeats 2000000 in
theorem sumRef (bs : List U8) (A : Option Addr) (c : Nat) (hbl : bs.length ≤ 1000000) (w : World) (hbs : Sl v8 w A bs) :
    Calls Try.prog 19 #[.slice A bs.length c] w fun e w' => e = .returned (.agg (cs8 (sumR bs))) ∧ Below w.heap.size w w' := by
  have hz := Try.zS20
  have hz5 := Try.zH5
  go_enter Try.func19, Try.ntmps19
  go_wp2_with (first | (go_at_call 25; refine (startRef _).mono ?_; rintro e w1 ⟨rfl, hb1⟩) | ((with_reducible refine at_store (N := 3) rfl ?_); refine wpList_store_own rfl 51 (.tmp 3) (.tmp 8) rfl (g := w1.heap.size) (t := 51) (old := cs32 (z32 5)) ?_ (cs32 startF.l) rfl rfl ?_ ?_ (cs32_one _) ?_; (· exact Own.newc rfl rfl); (· rw [Try.szH5]; rfl); (· rfl)) | (go_at_call 26; refine (padded64 bs A c hbl _ ?_).mono ?_; (· exact hbs.below (below_row (((((Below.refl _ w).alloc (Nat.le_refl _) (.cells (cs8 (z8 20)) 41)).trans (hb1.mono (by simp)))).alloc (by have := hb1.size; simp at this; omega) (.cells #[.int .u32 0, .int .u32 0, .int .u32 0, .int .u32 0, .int .u32 0] 51)) (by have := hb1.size; simp at this; omega) _)); rintro e w2 ⟨A1, c1, rfl, hc1, hs1, hb2⟩))
  have hs1z := hb1.size
  simp only [World.size_alloc] at hs1z
  have hB1 : Below w.heap.size w ((w1.alloc (.cells #[.int .u32 0, .int .u32 0, .int .u32 0, .int .u32 0, .int .u32 0] 51)).setRow w1.heap.size (cs32 startF.l)) := below_row (((((Below.refl _ w).alloc (Nat.le_refl _) (.cells (cs8 (z8 20)) 41)).trans (hb1.mono (by simp)))).alloc (by omega) _) (by omega) _
  have hB : Below w.heap.size w w2 := hB1.trans (hb2.mono (by simp; omega))
  have hR0 : Own w2 w.heap.size 41 (cs8 (z8 20)) := Own.below (((Own.below (Own.newc rfl rfl) hb1).alloc _).row_ne (by omega) _) hb2
  obtain ⟨gh, hgh⟩ : ∃ gh, gh = w1.heap.size := ⟨_, rfl⟩
  have hOh : Own w2 gh 51 (cs32 startF.l) := Own.below (by rw [hgh]; exact (Own.newc rfl rfl : Own _ _ _ (cs32 (z32 5))).row _) hb2
  have hghB : w.heap.size + 1 ≤ gh := by omega
  have hp64 : (padG64 bs).length = 64 * ((padF bs).length / 64) := by rw [padG_F]; exact padF_length bs
  obtain ⟨N, hN⟩ : ∃ N, N = (padF bs).length / 64 := ⟨_, rfl⟩
  have hfin : blocksR N startF (padG64 bs) = hashR bs := by rw [hN, padG_F]; rfl
  rw [← hN] at hp64
  obtain ⟨q, hq⟩ : ∃ q, q = padG64 bs := ⟨_, rfl⟩
  have hqle : q.length ≤ 1000100 := by rw [hq]; have := padG64_length_le bs; omega
  rw [← hq] at hfin hp64 hs1 hc1 ⊢
  obtain ⟨l, hlq⟩ : ∃ l, l = q.length := ⟨_, rfl⟩
  rw [← hlq] at hqle hp64 hc1 ⊢
  rw [← hgh]
  have HF := Lib.hid hfin; have HL := Lib.hid hlq; have HS := Lib.hid hs1; have HP := Lib.hid hp64
  clear hfin hlq hs1 hq hb1 hb2 hB1 hgh hN hp64
  go_wp2
  go_loopw [5] (fun i wr => ∃ (n k : Nat) (v : V5), i = .int .i64 (64 * (k : Int)) ∧ k + n = N ∧ Sl v8 wr A1 q ∧ Own wr gh 51 (cs32 v.l) ∧ Own wr w.heap.size 41 (cs8 (z8 20)) ∧ Below w.heap.size w wr ∧ Hid (blocksR n v (q.drop (64 * k)) = hashR bs))
    (fun i _ => (l - intOf i).toNat)
  case atStart => exact ⟨N, 0, startF, by simp, by omega, HS.out, hOh, hR0, hB, HF⟩
  case round =>
    clear hOh hR0 hB
    obtain ⟨n, k, v, rfl, hkn, hsq, hOv, hR, hb, HQ⟩ := hrel
    have hl64 := HP.out
    cases n with
    | zero =>
      have hend : ¬ 64 * (k : Int) < (l : Int) := by omega
      have hOh : Own wr gh 51 (cs32 (hashR bs).l) := by
        have h1 := HQ.out
        rw [← h1]; exact hOv
      have hghlt := hOh.lt
      clear hOv HQ hsq
      have hz := Try.zS20
      have hB := Lib.hid hb
      obtain ⟨wo, rfl⟩ : ∃ wo : World, wo = wr := ⟨_, rfl⟩
      clear hb
      go_wp2_with ((with_reducible refine at_store (N := 6) rfl ?_); refine wpList_store_own rfl 41 (.tmp 6) (.tmp 24) rfl (g := wo.heap.size) (t := 41) (old := cs8 (z8 20)) ?_ (cs8 (z8 20)) rfl rfl ?_ ?_ (cs8_one _) ?_; (· exact Own.newc rfl rfl); (· rw [Try.szS20, cs8_size, z8_length]); (· rfl))
      have hb := hB.out
      clear hB
      (try simp only [Act.put])
      go_wp2
      go_loopw [7] (fun i wr => ∃ k : Nat, k ≤ 20 ∧ i = .int .i64 k ∧ Own wr gh 51 (cs32 (hashR bs).l) ∧ Own wr wo.heap.size 41 (cs8 (outK (hashR bs).l k)) ∧ Own wr w.heap.size 41 (cs8 (z8 20)) ∧ Below w.heap.size w wr)
        (fun i _ => 20 - (intOf i).toNat)
      case atStart =>
        have := hb.size
        exact ⟨0, by omega, rfl, (hOh.alloc _).row_ne (by omega) _, (Own.newc rfl rfl : Own _ _ _ (cs8 (z8 20))).row _, (hR.alloc _).row_ne (by have := hR.lt; omega) _, below_row (hb.alloc (by omega) _) (by omega) _⟩
      case round =>
        have hszo := hb.size
        clear hOh hR hb
        obtain ⟨k, hk, rfl, h5, hq, hr, hb⟩ := hrel
        by_cases hlt : k < 20
        · have c5 := h5.cell32 (k / 4) (by rw [V5.l_length]; omega)
          have f1 := hq.frozen k
          have c1 := hq.cell8 k (by rw [outK_length]; omega)
          have hsh : (24 - 8 * ((k : Int) % 4)).toNat = 24 - 8 * (k % 4) := by omega
          have hge : 0 ≤ 24 - 8 * ((k : Int) % 4) := by omega
          have hRw := hr.lt
          have H5 := Lib.hid h5; have HQ2 := Lib.hid hq; have HR := Lib.hid hr; have HB2 := Lib.hid hb
          clear h5 hq hr hb
          go_wp2
          go_roundw
          case rel => exact ⟨k + 1, by omega, by go_num, H5.out.set_ne (by omega) _ _, HQ2.out.set8' k (outF (hashR bs).l k) (v8_shr32 _ _), HR.out.set_ne (by omega) _ _, HB2.out.setCell (by simp; omega) _⟩
          case measure => simp [intOf]; omega
        · have hq2 : Own wr wo.heap.size 41 (cs8 (sumR bs)) := by
            have : k = 20 := by omega
            subst this; exact hq
          go_wp2_with (first | ((with_reducible refine at_dst (N := 42) rfl ?_); refine wpList_load_own rfl 41 _ rfl (g := wo.heap.size) (t := 41) (cs := cs8 (sumR bs)) ?_ rfl Try.underlying41 rfl ?_ ?_; (· exact hq2); (· rw [Try.szS20, cs8_size, sumR_length])) | ((with_reducible refine at_store (N := 2) rfl ?_); refine wpList_store_own rfl 41 (.tmp 2) (.tmp 42) rfl (g := w.heap.size) (t := 41) (old := cs8 (z8 20)) ?_ (cs8 (sumR bs)) rfl rfl ?_ ?_ (cs8_one _) ?_; (· exact hr); (· rw [Try.szS20, cs8_size, sumR_length]); (· rw [cs8_size, cs8_size, z8_length, sumR_length])))
          refine bodyPost_ret (results_own rfl _ (hr.row _) rfl Try.underlying41 rfl (by rw [Try.szS20, cs8_size, sumR_length])) rfl ?_
          exact ⟨rfl, below_row hb (Nat.le_refl _) _⟩
    | succ n =>
      have hlt : 64 * (k : Int) < (l : Int) := by omega
      have hle : 64 * k + 64 ≤ l := by omega
      obtain ⟨A4, hs4, hrun4⟩ := run_slice_mid (P := Try.prog) hsq 22 5 c1 (64 * k) (64 * k + 64) .i64 .i64 (64 * (k : Int)) (64 * (k : Int) + 64) (by omega) (by omega) Try.underlying22 Try.szU8 (by omega) (by rw [← HL.out]; omega) (by rw [← HL.out]; exact hc1)
      rw [← HL.out, Nat.add_sub_cancel_left] at hrun4
      rw [Nat.add_sub_cancel_left] at hs4
      have hq6l : ((q.drop (64 * k)).take 64).length = 64 := by rw [List.length_take, List.length_drop, ← HL.out]; omega
      obtain ⟨q6, hq6⟩ : ∃ q6, q6 = (q.drop (64 * k)).take 64 := ⟨_, rfl⟩
      rw [← hq6] at hs4 hq6l
      have hwr : IntKind.i64.wrap (64 * (k : Int) + 64) = 64 * (k : Int) + 64 := IntWalk.i64_in _ (by omega)
      have HS4 := Lib.hid hs4; have HSQ := Lib.hid hsq; have HR := Lib.hid hR; have HB := Lib.hid hb; have HQ6 := Lib.hid hq6; have HQL6 := Lib.hid hq6l; have HKN := Lib.hid hkn
      have HOV := Lib.hid hOv
      clear hs4 hsq hR hb hq6 hq6l hkn hl64
      go_wp2
      refine wp_region_plan 7 [(true, 0), (true, 1), (true, 2), (true, 3), (true, 4), (true, 5), (false, 6)]
        (fun W => Own W gh 51 (cs32 v.l))
        (by kernel_rfl) (by kernel_rfl) (fun _ _ d _ _ h => by cases d <;> exact h) hOv ?_
      refine plan_take _ rfl (yieldsIf_load_own rfl 51 _ rfl gh rfl 51 (cs32 v.l) _ (fun W h => h) Try.underlying51 rfl (by rw [Try.szH5]; rfl)) ?_
      (try simp only [Act.put, List.setIfInBounds_toArray, List.set_cons_zero, List.set_cons_succ])
      repeat (refine plan_take ?_ rfl (Or.inl ⟨rfl, ?_⟩) ?_; rotate_left; (· intro W hS; (try dsimp only at hS); go_split_ands; go_simp; (try simp (disch := omega) only [w64_in]); (try rw [if_pos (by omega)]); (try with_reducible rfl)); (try simp only [Act.put, List.setIfInBounds_toArray, List.set_cons_zero, List.set_cons_succ]))
      refine plan_loud rfl ?_
      clear hwr hrun4
      go_wp2_with (go_at_call 27; refine (blockRef v q6 A4 _ HQL6.out _ ?_).mono ?_; (· exact HS4.out.below (Below.refl _ wr).drew); rintro e w7 ⟨rfl, hb7⟩)
      have hb8 : Below wr.heap.size wr w7 := (Below.refl _ wr).drew.trans hb7
      refine ⟨HOV.out.below hb8, ?_⟩
      refine plan_tail ?_
      simp only [List.drop_succ_cons, List.drop_zero]
      go_wp2_with ((with_reducible refine at_store (N := 3) rfl ?_); refine wpList_store_own rfl 51 (.tmp 3) (.tmp 23) rfl (g := gh) (t := 51) (old := cs32 v.l) ?_ (cs32 (blockR v q6).l) rfl rfl ?_ ?_ (cs32_one _) ?_; (· exact HOV.out.below hb8); (· rw [Try.szH5, cs32_size, V5.l_length]); (· rw [cs32_size, cs32_size, V5.l_length, V5.l_length]))
      go_roundw
      case rel =>
        refine ⟨n, k + 1, blockR v q6, by go_num, by have := HKN.out; omega, ?_, (HOV.out.below hb8).row _, (HR.out.below hb8).row_ne (by omega) _, below_row (below_then HB.out hb8 HB.out.size) (by omega) _, ?_⟩
        · exact (HSQ.out.below hb8).row_ne (sl8_ne_own32 (HSQ.out.below hb8) (by rw [← HL.out]; omega) (HOV.out.below hb8)) _
        · have h1 := HQ.out; rw [hashR_step, ← HQ6.out, List.drop_drop] at h1; exact h1
      case measure => simp [intOf]; omega
end Go.Proofs.Ytlcaobnojbkmbaa
/- The plain law of SHA-1: the program's way and the document's give the same numbers. -/
namespace Go.Proofs.Ytlcaobnojbkmbaa
theorem g32_set (xs : List U32) (i j : Nat) (x : U32) (hi : i < xs.length) : g32 (xs.set i x) j = if i = j then x else g32 xs j := by
  unfold g32
  rw [List.getD_eq_getElem?_getD, List.getD_eq_getElem?_getD, List.getElem?_set]
  by_cases h : i = j
  · subst h; simp [hi]
  · simp [h]
theorem g32_snoc (xs : List U32) (j : Nat) (x : U32) : g32 (xs ++ [x]) j = if j < xs.length then g32 xs j else if j = xs.length then x else 0 := by
  unfold g32
  rw [List.getD_eq_getElem?_getD, List.getD_eq_getElem?_getD]
  by_cases h : j < xs.length
  · rw [if_pos h, List.getElem?_append_left h]
  · rw [if_neg h, List.getElem?_append_right (by omega)]
    by_cases h2 : j = xs.length
    · subst h2; simp
    · rw [if_neg h2]
      rw [List.getElem?_eq_none (by simp; omega)]; rfl
theorem g32_z (n i : Nat) : g32 (z32 n) i = 0 := by
  unfold g32 z32
  rw [List.getD_eq_getElem?_getD, List.getElem?_replicate]
  split <;> rfl
theorem list32_ext {xs ys : List U32} (hl : xs.length = ys.length) (h : ∀ i, i < xs.length → g32 xs i = g32 ys i) : xs = ys := by
  apply List.ext_getElem hl
  intro i h1 h2
  have := h i h1
  simpa [g32, h1, h2] using this
/-- A word, so many of its four bytes taken. -/
def accW (bs : List U8) (i : Nat) : Nat → U32
  | 0 => 0
  | m + 1 => accW bs i m <<< 8 ||| (g8 bs (4 * i + m)).setWidth 32
theorem accW_four (bs : List U8) (i : Nat) : accW bs i 4 = be32 bs i := by
  simp only [accW, be32, Nat.add_zero, BitVec.shiftLeft_or_distrib, ← BitVec.shiftLeft_add]
  simp only [Nat.reduceAdd]
  rw [show (0 : U32) <<< 32 = 0#32 from by decide, BitVec.zero_or]
theorem sp1_get (bs : List U8) (k i : Nat) (hk : k ≤ 64) (_hi : i < 80) : g32 (sp1 bs k) i = accW bs i (min 4 (k - 4 * i)) := by
  induction k with
  | zero => rw [Nat.zero_sub, Nat.min_zero]; exact g32_z 80 i
  | succ k ih =>
    rw [sp1, g32_set _ _ _ _ (by rw [sp1_length]; omega)]
    by_cases h : k / 4 = i
    · rw [if_pos h, h, ih (by omega)]
      have e1 : min 4 (k - 4 * i) = k - 4 * i := by omega
      have e2 : min 4 (k + 1 - 4 * i) = k - 4 * i + 1 := by omega
      rw [e1, e2, accW, show 4 * i + (k - 4 * i) = k from by omega]
    · rw [if_neg h, ih (by omega)]
      congr 1
      omega
theorem wR_get_low (bs : List U8) (n i : Nat) (hn : n ≤ 16) (hi : i < n) : g32 (wR bs n) i = be32 bs i := by
  induction n with
  | zero => omega
  | succ n ih =>
    rw [wR_low bs n (by omega), g32_snoc, wR_length]
    by_cases h : i < n
    · rw [if_pos h]; exact ih (by omega) h
    · rw [if_neg h, if_pos (by omega)]
      congr 1; omega
theorem sp2_get (bs : List U8) (k i : Nat) (hk : k ≤ 64) (hi : i < k + 16) : g32 (sp2 bs k) i = g32 (wR bs (k + 16)) i := by
  induction k generalizing i with
  | zero =>
    rw [wR_get_low bs _ i (by omega) hi]
    show g32 (sp1 bs 64) i = _
    rw [sp1_get bs 64 i (by omega) (by omega), show min 4 (64 - 4 * i) = 4 from by omega, accW_four]
  | succ k ih =>
    rw [sp2, g32_set _ _ _ _ (by rw [sp2_length]; omega), show k + 1 + 16 = k + 16 + 1 from by omega, wR_high, g32_snoc, wR_length]
    by_cases h : k + 16 = i
    · rw [if_pos h, if_neg (by omega), if_pos h.symm]
      unfold wNext
      rw [ih _ (by omega) (by omega), ih _ (by omega) (by omega), ih _ (by omega) (by omega), ih _ (by omega) (by omega)]
    · rw [if_neg h, if_pos (by omega)]
      exact ih i (by omega) (by omega)
theorem spread_eq (bs : List U8) : spreadF bs = wRall bs := by
  apply list32_ext (by rw [spreadF_length, wRall_length])
  intro i hi
  rw [spreadF_length] at hi
  exact sp2_get bs 64 i (by omega) (by omega)
theorem ch_eq (b c d : U32) : d ^^^ (b &&& (c ^^^ d)) = b &&& c ||| (b ^^^ 0xffffffff) &&& d := by
  have e : (0xffffffff : U32) = BitVec.allOnes 32 := rfl
  rw [e, BitVec.xor_allOnes]
  apply BitVec.eq_of_getLsbD_eq
  intro i hi
  simp only [BitVec.getLsbD_xor, BitVec.getLsbD_and, BitVec.getLsbD_or, BitVec.getLsbD_not, hi, decide_true, Bool.true_and]
  cases b.getLsbD i <;> cases c.getLsbD i <;> cases d.getLsbD i <;> rfl
theorem maj_eq (b c d : U32) : b &&& c ||| d &&& (b ||| c) = b &&& c ||| b &&& d ||| c &&& d := by
  apply BitVec.eq_of_getLsbD_eq
  intro i hi
  simp only [BitVec.getLsbD_and, BitVec.getLsbD_or]
  cases b.getLsbD i <;> cases c.getLsbD i <;> cases d.getLsbD i <;> rfl
theorem mix_eq (t : Nat) (b c d : U32) (ht : t < 80) : mixF t b c d = fR t b c d := by
  unfold mixF fR
  rcases (by omega : t < 20 ∨ (20 ≤ t ∧ t < 40) ∨ (40 ≤ t ∧ t < 60) ∨ 60 ≤ t) with h | ⟨h, h2⟩ | ⟨h, h2⟩ | h
  · rw [if_pos (by omega), if_pos h, ch_eq]
  · rw [if_neg (by omega), if_neg (by omega), if_neg (by omega), if_pos h2]
  · rw [if_neg (by omega), if_pos (by omega), if_neg (by omega), if_neg (by omega), if_pos h2, maj_eq]
  · rw [if_neg (by omega), if_neg (by omega), if_neg (by omega), if_neg (by omega), if_neg (by omega)]
theorem ks_eq (t : Nat) (ht : t < 80) : g32 ks (t / 20) = kR t := by
  unfold kR
  rcases (by omega : t < 20 ∨ (20 ≤ t ∧ t < 40) ∨ (40 ≤ t ∧ t < 60) ∨ 60 ≤ t) with h | ⟨h, h2⟩ | ⟨h, h2⟩ | h
  · rw [if_pos h, show t / 20 = 0 from by omega]; rfl
  · rw [if_neg (by omega), if_pos h2, show t / 20 = 1 from by omega]; rfl
  · rw [if_neg (by omega), if_neg (by omega), if_pos h2, show t / 20 = 2 from by omega]; rfl
  · rw [if_neg (by omega), if_neg (by omega), if_neg (by omega), show t / 20 = 3 from by omega]; rfl
theorem rounds_eq (ws : List U32) (v : V5) (k : Nat) (hk : k ≤ 80) : roundsF ws v k = roundsR ws v k := by
  induction k with
  | zero => rfl
  | succ k ih =>
    rw [roundsF, roundsR, ih (by omega), stepF, stepR, mix_eq _ _ _ _ (by omega), ks_eq k (by omega)]
theorem block_eq (h : V5) (bs : List U8) : blockF h bs = blockR h bs := by
  rw [blockF, blockR, spread_eq, rounds_eq _ _ _ (Nat.le_refl _)]
theorem blocks_eq (n : Nat) (h : V5) (p : List U8) : blocksF n h p = blocksR n h p := by
  induction n generalizing h p with
  | zero => rfl
  | succ n ih => rw [blocksF, blocksR, block_eq, ih]
theorem sum_eq (bs : List U8) : sumF bs = sumR bs := by
  rw [sumF, sumR, hashF, hashR, blocks_eq]
/-- What 'alive' looks at. -/
theorem abc0 : g8 (sumF [97, 98, 99]) 0 = 0xa9 ∧ g8 (sumF [97, 98, 99]) 1 = 0x99 ∧ g8 (sumF [97, 98, 99]) 19 = 0x9d := by decide +kernel
end Go.Proofs.Ytlcaobnojbkmbaa
