/- How many bits a number has: the program's. -/
import Derived.Test.YtkpbjkhgiackpaaQb
import Derived.Test.YtkpbjkhgiackpaaN5r
import Derived.RangeFuncFrom
namespace Go.Proofs.Ytkpbjkhgiackpaa
open Go Go.RowKit Go.Shelf
set_option linter.unusedVariables false
set_option linter.unusedSimpArgs false

attribute [local go_sem] Oper.semAt_some
theorem box_cell {W : World} {b : Nat} {v : Value} {t : TypeId} (h : W.heap[b]? = some (.cells #[v] t)) : W.cell? ⟨b, 0, none⟩ = some v ∧ W.frozen? ⟨b, 0, none⟩ = false := by
  simp [World.cell?, World.frozen?, h]
theorem new_cell (W : World) (v : Value) (t : TypeId) : (W.alloc (.cells #[v] t)).cell? ⟨W.heap.size, 0, none⟩ = some v ∧ (W.alloc (.cells #[v] t)).frozen? ⟨W.heap.size, 0, none⟩ = false :=
  box_cell (World.alloc_heap_new W _)
theorem cell_al {W : World} {a : Addr} {v : Value} (o : Obj) (h : W.cell? a = some v) : (W.alloc o).cell? a = some v := cell_kept h (World.grownBy_alloc W o none) (fun r e => by cases e)
theorem frozen_al {W : World} {a : Addr} {v : Value} (o : Obj) (h : W.cell? a = some v) (hf : W.frozen? a = false) : (W.alloc o).frozen? a = false := (frozen_kept h (World.grownBy_alloc W o none) (fun r e => by cases e)).trans hf
theorem dn_top {xs : List U32} {k : Nat} (hk : k < xs.length) (hz : ∀ y ∈ dnL xs k, y.2 = 0) : nv32 (xs.drop (xs.length - k)) = 0 := by
  induction k with
  | zero => simp [nv32]
  | succ k ih =>
    rw [dnL_succ] at hz
    have h1 := ih (by omega) (fun y hy => hz y (List.mem_append.2 (.inl hy)))
    have h2 : g32 xs (xs.length - 1 - k) = 0 := hz (dnF xs k) (List.mem_append.2 (.inr (by simp)))
    have h3 := nv32_drop xs (xs.length - (k + 1))
    rw [show xs.length - (k + 1) + 1 = xs.length - k by omega, h1, show xs.length - (k + 1) = xs.length - 1 - k by omega, h2] at h3
    rw [show xs.length - (k + 1) = xs.length - 1 - k by omega, h3]
    rfl
theorem dn_none {xs : List U32} (hz : ∀ y ∈ dnL xs xs.length, y.2 = 0) : nv32 xs = 0 := by
  rcases Nat.eq_zero_or_pos xs.length with h0 | hp
  · rw [List.eq_nil_of_length_eq_zero h0]; rfl
  · obtain ⟨k, hk⟩ : ∃ k, xs.length = k + 1 := ⟨xs.length - 1, by omega⟩
    rw [hk, dnL_succ] at hz
    have h1 := dn_top (xs := xs) (k := k) (by omega) (fun y hy => hz y (List.mem_append.2 (.inl hy)))
    have h2 : g32 xs (xs.length - 1 - k) = 0 := hz (dnF xs k) (List.mem_append.2 (.inr (by simp)))
    have h3 := nv32_drop xs 0
    rw [show xs.length - k = 0 + 1 by omega] at h1
    rw [h1, show 0 = xs.length - 1 - k by omega, h2, show xs.length - 1 - k = 0 by omega, List.drop_zero] at h3
    rw [h3]; rfl
theorem dn_bits {xs : List U32} {k : Nat} (hk : k < xs.length) (hz : ∀ y ∈ dnL xs k, y.2 = 0) (hw : g32 xs (xs.length - 1 - k) ≠ 0) : blN (nv32 xs) = 32 * (xs.length - 1 - k) + blN (g32 xs (xs.length - 1 - k)).toNat := by
  have h1 := dn_top hk hz
  have h3 := nv32_drop xs (xs.length - 1 - k)
  rw [show xs.length - 1 - k + 1 = xs.length - k by omega, h1, Nat.mul_zero, Nat.add_zero] at h3
  have e := nv32_take_drop xs (xs.length - 1 - k) (by omega)
  have hlt := nv32_lt (xs.take (xs.length - 1 - k))
  rw [List.length_take, Nat.min_eq_left (by omega)] at hlt
  have e2 : (4294967296 : Nat) ^ (xs.length - 1 - k) = 2 ^ (32 * (xs.length - 1 - k)) := by rw [Nat.pow_mul]
  rw [h3, e2] at e
  rw [e2] at hlt
  have hp := toNat_ne32 hw
  have hge : 2 ^ (32 * (xs.length - 1 - k)) ≤ nv32 xs := by
    rw [e]
    exact Nat.le_trans (by rw [Nat.mul_one]; exact Nat.le_refl _) (Nat.le_trans (Nat.mul_le_mul_left (2 ^ (32 * (xs.length - 1 - k))) (show 1 ≤ (g32 xs (xs.length - 1 - k)).toNat from hp)) (Nat.le_add_left _ _))
  rw [blN_shift hge]
  congr 2
  rw [e, Nat.add_mul_div_left _ _ (Nat.two_pow_pos _), Nat.div_eq_of_lt hlt, Nat.zero_add]
set_option maxRecDepth 100000 in
set_option maxHeartbeats 2000000 in
theorem bits_in (F : Fence) (n : Nat) (h29 : F.fn 29) (h54 : F.fn 88) (h63 : F.fn 131) (h56 : F.fn 89) (hro : F.round = none) (hn : 4 ≤ n) (A : Option Addr) (cap : Nat) (xs : List U32) (hm : xs.length ≤ 100000) (w : World) (hs : Sl id w A (Cells.vals (.c32 xs))) (hk : ∀ k, blkA A = some k → k < w.heap.size) :
    CallsIn F n Try.prog 29 #[.slice A xs.length cap] w fun e W' => e = .returned (.int .i64 (blN (nv32 xs) : Nat)) ∧ Below w.heap.size w W' := by
  have h1 : 1 ≤ n := by omega
  refine callsIn_of_wp_marks Try.func29 rfl h29 ?_ hro
  simp only [Try.ntmps29, List.size_toArray, List.length_cons, List.length_nil, Nat.reduceAdd, Nat.reduceSub, Array.replicate_succ, Array.replicate_zero, List.push_toArray, List.append_toArray, List.nil_append, List.cons_append]
  gi_wp2_with (gi_at_call 88; refine (down_in F (n - 1) h54 hro _ _ _ _).mono ?_; rintro e w' ⟨rfl, rfl⟩)
  have c0 := new_cell w (.int .i64 0) 3
  have c1 := new_cell (w.alloc (.cells #[.int .i64 0] 3)) (.slice A xs.length cap) 23
  simp only [World.size_alloc] at c1
  have hB0 : Below w.heap.size w ((w.alloc (.cells #[.int .i64 0] 3)).alloc (.cells #[.slice A xs.length cap] 23)) := ((Below.refl _ w).alloc (Nat.le_refl _) _).alloc (by simp) _
  have hS : ∀ k, (k < w.heap.size ∨ k = w.heap.size + 1) → k < ((w.alloc (.cells #[.int .i64 0] 3)).alloc (.cells #[.slice A xs.length cap] 23)).heap.size := fun k hk2 => by simp; omega
  have hL : LiesD (fun k => k < w.heap.size ∨ k = w.heap.size + 1) ((w.alloc (.cells #[.int .i64 0] 3)).alloc (.cells #[.slice A xs.length cap] 23)) A xs :=
    ⟨hs.below hB0, fun k hk2 => .inl (hk k hk2)⟩
  refine wpIn_rangeFunc_ownF hro h1 (gf := 131) (lb := #[.pointer (some ⟨w.heap.size + 1, 0, none⟩)]) rfl h63 (enters_of Try.func131 (by kernel_rfl) rfl)
    (down_stops F (n - 1) h63 hro (by omega) (w.heap.size + 1) cap (fun k => k < w.heap.size ∨ k = w.heap.size + 1) A xs hm _ (.inr rfl) hS c1.1 hL) (fun h1 h2 => h1.trans h2) (KD_b hS) (Below.refl _ _) (fun _ => rfl)
    (fun pre W => ((∀ y ∈ pre, y.2 = 0) ∧ W.cell? ⟨w.heap.size, 0, none⟩ = some (.int .i64 0) ∧ W.frozen? ⟨w.heap.size, 0, none⟩ = false) ∧ Below w.heap.size w W)
    (fun c pre W => (c = .ret ∧ (∃ pre' x, pre = pre' ++ [x] ∧ (∀ y ∈ pre', y.2 = 0) ∧ x.2 ≠ 0 ∧ W.cell? ⟨w.heap.size, 0, none⟩ = some (.int .i64 (wrap64 (wrap64 (32 * (x.1 : Int)) + (blN x.2.toNat : Nat)))))) ∧ Below w.heap.size w W)
    (OwnFrom.and (Own.from (fun s A B row hs hg hr => ⟨hs.1, cell_kept hs.2.1 hg hr, (frozen_kept hs.2.1 hg hr).trans hs.2.2⟩) _) (ownFrom_below (Nat.le_refl _) (by simp; omega)))
    (fun c => OwnFrom.and (Own.from (fun s A B row hs hg hr => by obtain ⟨h0, p, x, h1, h2, h3, h4⟩ := hs; exact ⟨h0, p, x, h1, h2, h3, cell_kept h4 hg hr⟩) _) (ownFrom_below (Nat.le_refl _) (by simp; omega)))
    ⟨⟨by simp, cell_al _ c0.1, frozen_al _ c0.1 c0.2⟩, hB0⟩
    (fun x => { tmps := #[.slice A xs.length cap, undef, .pointer (some ⟨w.heap.size, 0, none⟩), .int .i64 (x.1 : Int), .int .u32 (i32 x.2), .slice A xs.length cap, .func (.func 131) #[] #[.pointer (some ⟨w.heap.size + 1, 0, none⟩)], .int .i64 (x.1 : Int), .int .u32 (i32 x.2), undef, undef, undef, undef, undef, undef, undef], defers := [] }) ?assign ?body ?done ?stop
  case assign =>
    intro l x W K hK
    gi_wp2
    exact hK
  case body =>
    rintro l pre x W ⟨⟨hz, hcr, hfr⟩, hB⟩ _
    have hd : 1 ≤ n - 1 - 1 := by omega
    gi_wp2_with (gi_at_call 89; refine (CallsIn.inRound l (len32_in F _ h56 hro x.2 _)).mono ?_; rintro e w' ⟨rfl, rfl⟩)
    · rename_i hx
      have hne : x.2 ≠ 0 := fun h0 => by rw [h0] at hx; exact absurd hx (by decide)
      exact ⟨KeepsOthers.setCell _ _ _, ⟨rfl, pre, x, rfl, hz, hne, World.cell?_setCell_same' _ _ _ (by rw [hcr]; rfl)⟩, hB.setCell (p := ⟨w.heap.size, 0, none⟩) (by simp) _⟩
    · rename_i hx
      have he : x.2 = 0 := by
        have : i32 x.2 = i32 0 := (show i32 x.2 = 0 by simpa using hx).trans rfl
        exact i32_inj.1 this
      exact ⟨KeepsOthers.refl _, KD.refl _ _, ⟨fun y hy => (List.mem_append.1 hy).elim (hz y) (fun h2 => by simp at h2; subst h2; exact he), hcr, hfr⟩, hB⟩
  case done =>
    rintro D ys W hD rfl ⟨⟨hz, hcr, hfr⟩, hB⟩ hK
    gi_wp2
    have hK' := (KeepsOthers.setCell W ⟨w.heap.size, 0, none⟩ (.int .i64 0)).same D _ hK rfl
    refine ⟨by simp, .inl ⟨_, _, rfl, run_takeDeferred hK', ?_⟩⟩
    have hc5 := cell_kept (World.cell?_setCell_same' W ⟨w.heap.size, 0, none⟩ (.int .i64 0) (by rw [hcr]; rfl)) (grownBy_putObj' _ D (.deferred none)) (fun r e => by cases e; exact ⟨_, hK', rfl⟩)
    have hb0 : (.int .i64 0 : Value) = .int .i64 (blN (nv32 xs) : Nat) := by rw [dn_none hz]; rfl
    refine ⟨.int .i64 0, ?_, congrArg _ hb0, (hB.setCell (p := ⟨w.heap.size, 0, none⟩) (by simp) _).trans (belowK_b (w := w) (Nat.le_refl _) _ D _ _ (by simp at hD; omega) hK' rfl rfl)⟩
    simp [results, Try.f29, go_sem, hc5]
  case stop =>
    rintro D c pre W hD ⟨k, hk2, hpre⟩ ⟨⟨rfl, pre', x, rfl, hz, hx, hcr⟩, hB⟩ hK
    obtain ⟨k, rfl⟩ : ∃ m, k = m + 1 := by
      rcases k with _ | k
      · simp [dnL] at hpre
      · exact ⟨k, rfl⟩
    rw [dnL_succ] at hpre
    obtain ⟨rfl, hxe⟩ := List.append_inj' hpre rfl
    obtain rfl : x = dnF xs k := by simpa using hxe
    have hbl := dn_bits (xs := xs) (k := k) (by omega) hz hx
    have hb := blN_le (k := (g32 xs (xs.length - 1 - k)).toNat) (s := 32) (g32 xs (xs.length - 1 - k)).isLt
    have hv : wrap64 (wrap64 (32 * ((dnF xs k).1 : Int)) + (blN (dnF xs k).2.toNat : Nat)) = ((blN (nv32 xs) : Nat) : Int) := by
      rw [hbl]; simp only [dnF, wrap64]; omega
    rw [hv] at hcr
    clear hbl hv hb
    obtain ⟨bb, hbb⟩ : ∃ bb, blN (nv32 xs) = bb := ⟨_, rfl⟩
    rw [hbb] at hcr
    gi_wp2
    refine ⟨by simp, .inl ⟨_, _, rfl, run_takeDeferred hK, ?_⟩⟩
    have hc5 := cell_kept hcr (grownBy_putObj' _ D (.deferred none)) (fun r e => by cases e; exact ⟨_, hK, rfl⟩)
    refine ⟨.int .i64 (bb : Nat), ?_, by first | rfl | rw [hbb], hB.trans (belowK_b (w := w) (Nat.le_refl _) W D _ _ (by simp at hD; omega) hK rfl rfl)⟩
    simp [results, Try.f29, go_sem, hc5]
theorem sBitsN : Sound Try.prog 29 cBits := by
  intro cas K W vals ha hC
  unfold cBits at hC
  split at hC
  · rename_i a
    obtain ⟨hm, hK⟩ := hC
    match vals, ha with
    | [V], ⟨⟨A, c, hV, hlc, hs, hk⟩, _⟩ =>
      subst hV
      refine ⟨⟨Try.f29, Try.func29, by decide, rfl⟩, (callsIn_wide.1 (bits_in Fence.wide 4 trivial trivial trivial trivial rfl (by omega) A c a (by omega) W hs hk)).mono ?_⟩
      rintro e W' ⟨rfl, hB⟩
      exact ⟨.one (.v (.int _)), _, rfl, ⟨rfl, rfl⟩, hB, hK⟩
  · exact hC.elim
end Go.Proofs.Ytkpbjkhgiackpaa
