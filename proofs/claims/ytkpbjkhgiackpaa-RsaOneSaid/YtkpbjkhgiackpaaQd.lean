/- The words from the highest one on: what the program's inner iterator hands out. -/
import Derived.RangeFuncNested
import Derived.RangeFuncBound
import Derived.RangeFuncCalls
import Derived.RangeFuncLeaves
import Derived.Shelf.Abstract
import Derived.Shelf.RegionOpen
import Derived.WalkKit
import Derived.OwnWalkIn
import Derived.TacticsInMore
import Derived.LoopNIn
import Derived.LoopIn
import Derived.Test.YtkpbjkhgiackpaaQ1
namespace Go.Proofs.Ytkpbjkhgiackpaa
open Go Go.RowKit Go.Shelf
set_option linter.unusedVariables false
set_option linter.unusedSimpArgs false

attribute [local go_sem] Oper.semAt_some
def dnF (xs : List U32) (j : Nat) : Nat × U32 := (xs.length - 1 - j, g32 xs (xs.length - 1 - j))
def dnL (xs : List U32) (k : Nat) : List (Nat × U32) := (List.range k).map (dnF xs)
theorem dnL_succ (xs : List U32) (k : Nat) : dnL xs (k + 1) = dnL xs k ++ [dnF xs k] := by simp [dnL, List.range_succ]
/-- The cells of the blocks in S hold what they held. -/
def KD (S : Nat → Prop) (W W' : World) : Prop := ∀ p : Addr, S p.block → W'.cell? p = W.cell? p
theorem KD.refl (S : Nat → Prop) (W : World) : KD S W W := fun _ _ => rfl
theorem KD.trans {S : Nat → Prop} {A B C : World} (h1 : KD S A B) (h2 : KD S B C) : KD S A C := fun p hp => (h2 p hp).trans (h1 p hp)
theorem KD.of {S : Nat → Prop} {n₀ : Nat} {A B : World} (hS : ∀ k, S k → k < n₀) (h : Below n₀ A B) : KD S A B := fun p hp => h.cell (p := p) (hS _ hp)
theorem KD.cell {S : Nat → Prop} {A B : World} (h : KD S A B) {p : Addr} (hp : S p.block) : B.cell? p = A.cell? p := h p hp
theorem KD_b {S : Nat → Prop} {w : World} (hS : ∀ k, S k → k < w.heap.size) : ∀ (W : World) (l : Nat) (o o' : Obj), w.heap.size ≤ l → W.heap[l]? = some o → o.isCells = false → o.isWalk = false → KD S W (W.putObj l o') :=
  fun W l o o' hl hh h1 h2 => KD.of hS (belowK_b (w := w) (Nat.le_refl _) W l o o' hl hh h1 h2)
theorem dnL_length (xs : List U32) (k : Nat) : (dnL xs k).length = k := by simp [dnL]
set_option maxRecDepth 100000 in
set_option maxHeartbeats 2000000 in
theorem down1_in (F : Fence) (n : Nat) (h8 : F.fn 131) (hro : F.round = none) (hn : 1 ≤ n) (l Bs b off cap : Nat) (S : Nat → Prop) (xs : List U32) (hreach : xs.length ≤ 100000) (hb : S b) (J Jx : List (Nat × U32) → World → Prop)
    (hY : ∀ pre x W, J pre W → pre.length < xs.length → (x.1 < xs.length ∧ x.2 = g32 xs x.1) → YieldAt F (n - 1) Try.prog l #[.int .i64 (x.1 : Int), .int .u32 (i32 x.2)] W fun e W' =>
      (e = .returned (.bool true) ∧ J (pre ++ [x]) W' ∧ KD S W W') ∨ (e = .returned (.bool false) ∧ Jx (pre ++ [x]) W'))
    (W : World) (hBlt : S Bs) (hBs : W.cell? ⟨Bs, 0, none⟩ = some (.slice (some ⟨b, off, none⟩) xs.length cap)) (hc : ∀ j, j < xs.length → W.cell? ⟨b, off + j, none⟩ = some (.int .u32 (i32 (g32 xs j)))) (h0 : J [] W) :
    CallsIn F n Try.prog 131 #[.func (.yield l) #[] #[], .pointer (some ⟨Bs, 0, none⟩)] W fun e W' => (∃ v, e = .returned v) ∧
      ((∃ ys, ys = dnL xs xs.length ∧ J ys W') ∨ (∃ pre, (∃ k, k ≤ xs.length ∧ pre = dnL xs k) ∧ Jx pre W')) := by
  refine callsIn_of_wp Try.func131 rfl h8 ?_ hro
  simp only [Try.ntmps131, List.size_toArray, List.length_cons, List.length_nil, Nat.reduceAdd, Nat.reduceSub, Array.replicate_succ, Array.replicate_zero, List.push_toArray, List.append_toArray, List.nil_append, List.cons_append]
  gi_wp2
  gi_loopw [3] (fun i wr => ∃ m : Nat, m ≤ xs.length ∧ i = .int .i64 ((m : Int) - 1) ∧ J (dnL xs (xs.length - m)) wr ∧ KD S W wr)
    (fun i _ => (intOf i + 1).toNat)
  case atStart => exact ⟨xs.length, Nat.le_refl _, rfl, by rw [Nat.sub_self]; exact h0, KD.refl _ _⟩
  case round =>
    obtain ⟨m, hm, rfl, hJs, hnx⟩ := hrel
    have hBx : wr.cell? ⟨Bs, 0, none⟩ = some (.slice (some ⟨b, off, none⟩) xs.length cap) := (hnx.cell (p := ⟨Bs, 0, none⟩) hBlt).trans hBs
    rcases m with _ | m
    · gi_wp2
      go_end0
      exact ⟨⟨_, rfl⟩, .inl ⟨_, rfl, hJs⟩⟩
    · have hcx' : wr.cell? ⟨b, off + m, none⟩ = some (.int .u32 (i32 (g32 xs m))) := (hnx.cell (p := ⟨b, off + m, none⟩) hb).trans (hc m (by omega))
      have e0 : ((m + 1 : Nat) : Int) - 1 = (m : Int) := by omega
      have ef : dnF xs (xs.length - (m + 1)) = (m, g32 xs m) := by
        unfold dnF; rw [show xs.length - 1 - (xs.length - (m + 1)) = m by omega]
      rw [e0]
      obtain ⟨fn, tmps, assign, body, hy, hR⟩ := hY _ (m, g32 xs m) wr hJs (by rw [dnL_length]; omega) ⟨by dsimp only; omega, rfl⟩
      dsimp only at hy
      gi_wp2
      refine hR.mono ?_
      rintro e W3 (⟨rfl, hJ3, hk3⟩ | ⟨rfl, hJx3⟩)
      · gi_wp2
        go_roundw
        case rel => exact ⟨m, by omega, by simp, by rw [show xs.length - m = xs.length - (m + 1) + 1 by omega, dnL_succ, ef]; exact hJ3, hnx.trans hk3⟩
        case measure => first | (simp [intOf]; done) | (simp [intOf]; omega)
      · gi_wp2
        refine bodyPost_ret (results_none rfl _ _ _) rfl ?_
        exact ⟨⟨_, rfl⟩, .inr ⟨_, ⟨xs.length - (m + 1) + 1, by omega, by rw [dnL_succ, ef]⟩, hJx3⟩⟩
set_option maxRecDepth 100000 in
set_option maxHeartbeats 1000000 in
theorem down1_nil (F : Fence) (n : Nat) (h8 : F.fn 131) (hro : F.round = none) (l Bs cap : Nat) (A : Option Addr) (J : List (Nat × U32) → World → Prop) (W : World) (hBs : W.cell? ⟨Bs, 0, none⟩ = some (.slice A 0 cap)) (h0 : J [] W) :
    CallsIn F n Try.prog 131 #[.func (.yield l) #[] #[], .pointer (some ⟨Bs, 0, none⟩)] W fun e W' => (∃ v, e = .returned v) ∧ J [] W' := by
  refine callsIn_of_wp Try.func131 rfl h8 ?_ hro
  simp only [Try.ntmps131, List.size_toArray, List.length_cons, List.length_nil, Nat.reduceAdd, Nat.reduceSub, Array.replicate_succ, Array.replicate_zero, List.push_toArray, List.append_toArray, List.nil_append, List.cons_append]
  gi_wp2
  gi_loopw [3] (fun i wr => i = .int .i64 (-1) ∧ J [] wr) (fun _ _ => 0)
  case atStart => exact ⟨rfl, h0⟩
  case round =>
    obtain ⟨rfl, hJs⟩ := hrel
    gi_wp2
    go_end0
    exact ⟨⟨_, rfl⟩, hJs⟩
set_option maxHeartbeats 1000000 in
theorem down_in (F : Fence) (n : Nat) (h6 : F.fn 88) (hro : F.round = none) (a : Option Addr) (len cap : Nat) (w : World) :
    CallsIn F n Try.prog 88 #[.slice a len cap] w fun e w' => e = .returned (.func (.func 131) #[] #[.pointer (some ⟨w.heap.size, 0, none⟩)]) ∧ w' = w.alloc (.cells #[.slice a len cap] 23) := by
  refine callsIn_of_wp Try.func88 rfl h6 ?_ hro
  simp only [Try.ntmps88, List.size_toArray, List.length_cons, List.length_nil, Nat.reduceAdd, Nat.reduceSub, Array.replicate_succ, Array.replicate_zero, List.push_toArray, List.append_toArray, List.nil_append, List.cons_append]
  gi_wp2
  go_ret
  exact ⟨rfl, rfl⟩
theorem dnL_done (xs : List U32) : ∃ k, k ≤ xs.length ∧ dnL xs xs.length = dnL xs k := ⟨_, Nat.le_refl _, rfl⟩
/-- A row of words that lies in the blocks of S. -/
def LiesD (S : Nat → Prop) (W : World) (A : Option Addr) (xs : List U32) : Prop := Sl id W A (Cells.vals (.c32 xs)) ∧ ∀ k, blkA A = some k → S k
theorem LiesD.keep {S : Nat → Prop} {W W' : World} {A : Option Addr} {xs : List U32} (h : LiesD S W A xs) (hb : KD S W W') : LiesD S W' A xs :=
  ⟨⟨h.1.1, fun i x hx => by
    obtain ⟨b, o, hA, hc⟩ := h.1.2 i x hx
    subst hA
    exact ⟨b, o, rfl, (hb.cell (p := ⟨b, o + i, none⟩) (h.2 b rfl)).trans hc⟩⟩, h.2⟩
theorem LiesD.at_ {S : Nat → Prop} {W : World} {A : Option Addr} {xs : List U32} (h : LiesD S W A xs) (hn : 0 < xs.length) : ∃ b o, A = some ⟨b, o, none⟩ ∧ S b ∧ ∀ j, j < xs.length → W.cell? ⟨b, o + j, none⟩ = some (.int .u32 (i32 (g32 xs j))) := by
  have hget : ∀ j, j < xs.length → (Cells.vals (.c32 xs))[j]? = some (v32 (g32 xs j)) := fun j hj => by
    simp [Cells.vals, g32, hj]
  obtain ⟨b, o, hA, -⟩ := h.1.2 0 _ (hget 0 hn)
  refine ⟨b, o, hA, h.2 b (by rw [hA]; rfl), fun j hj => ?_⟩
  obtain ⟨b', o', hA', hc⟩ := h.1.2 j _ (hget j hj)
  rw [hA] at hA'
  injection hA' with hA'
  injection hA' with h1 h2
  subst h1; subst h2
  exact hc
theorem down_stops (F : Fence) (n : Nat) (h8 : F.fn 131) (hro : F.round = none) (hn : 1 ≤ n) (Bs cap : Nat) (S : Nat → Prop) (A : Option Addr) (xs : List U32) (hreach : xs.length ≤ 100000) (w : World) (hBs : S Bs) (hS : ∀ k, S k → k < w.heap.size)
    (hc : w.cell? ⟨Bs, 0, none⟩ = some (.slice A xs.length cap)) (hI : LiesD S w A xs) :
    SeqStopsK F n Try.prog 131 #[.pointer (some ⟨Bs, 0, none⟩)] (fun x : Nat × U32 => #[Value.int .i64 (x.1 : Int), .int .u32 (i32 x.2)]) (KD S) (fun ys => ys = dnL xs xs.length)
      (fun pre => ∃ k, k ≤ xs.length ∧ pre = dnL xs k) xs.length w := fun l J Jx W hW _ _ hY h0 => by
  have hc' := (hW.cell (p := ⟨Bs, 0, none⟩) (hS _ hBs)).trans hc
  have hI' := hI.keep (KD.of hS hW)
  rcases Nat.eq_zero_or_pos xs.length with hz | hp
  · rw [hz] at hc'
    exact (down1_nil F n h8 hro l Bs cap A J W hc' h0).mono fun e W' ⟨he, hj⟩ => ⟨he, .inl ⟨_, rfl, by rw [hz]; exact hj⟩⟩
  · obtain ⟨b, o, rfl, hb, hcs⟩ := hI'.at_ hp
    exact down1_in F n h8 hro hn l Bs b o cap S xs hreach hb J Jx (fun pre x W h1 h2 _ => hY pre x W h1 h2) W hBs hc' hcs h0
/-- A word of such a row, with its place. -/
abbrev DnX (xs : List U32) := {x : Nat × U32 // x.1 < xs.length ∧ x.2 = g32 xs x.1}
theorem down_stopsB (F : Fence) (n : Nat) (h8 : F.fn 131) (hro : F.round = none) (hn : 1 ≤ n) (Bs cap : Nat) (S : Nat → Prop) (A : Option Addr) (xs : List U32) (hreach : xs.length ≤ 100000) (w : World) (hBs : S Bs) (hS : ∀ k, S k → k < w.heap.size)
    (hc : w.cell? ⟨Bs, 0, none⟩ = some (.slice A xs.length cap)) (hI : LiesD S w A xs) :
    SeqStopsK F n Try.prog 131 #[.pointer (some ⟨Bs, 0, none⟩)] (fun x : DnX xs => #[Value.int .i64 (x.1.1 : Int), .int .u32 (i32 x.1.2)]) (KD S) (fun ys => ys.map Subtype.val = dnL xs xs.length)
      (fun pre => ∃ k, k ≤ xs.length ∧ pre.map Subtype.val = dnL xs k) xs.length w := fun l J Jx W hW _ _ hY h0 => by
  have hc' := (hW.cell (p := ⟨Bs, 0, none⟩) (hS _ hBs)).trans hc
  have hI' := hI.keep (KD.of hS hW)
  rcases Nat.eq_zero_or_pos xs.length with hz | hp
  · rw [hz] at hc'
    exact (down1_nil F n h8 hro l Bs cap A (fun _ W' => J [] W') W hc' h0).mono fun e W' ⟨he, hj⟩ => ⟨he, .inl ⟨[], by rw [show dnL xs xs.length = [] by rw [hz]; rfl]; rfl, hj⟩⟩
  · obtain ⟨b, o, rfl, hb, hcs⟩ := hI'.at_ hp
    refine (down1_in F n h8 hro hn l Bs b o cap S xs hreach hb (fun pre W' => ∃ pre' : List (DnX xs), pre'.map Subtype.val = pre ∧ J pre' W') (fun pre W' => ∃ pre' : List (DnX xs), pre'.map Subtype.val = pre ∧ Jx pre' W') ?_ W hBs hc' hcs ⟨[], rfl, h0⟩).mono ?_
    · rintro pre x W' ⟨pre', rfl, hJ⟩ hl hx
      obtain ⟨fn, tmps, asg, bd, hy, hR⟩ := hY pre' ⟨x, hx⟩ W' hJ (by simpa using hl)
      refine ⟨fn, tmps, asg, bd, hy, hR.mono ?_⟩
      rintro e W2 (⟨h1, h2, h3⟩ | ⟨h1, h2⟩)
      · exact .inl ⟨h1, ⟨pre' ++ [⟨x, hx⟩], by simp, h2⟩, h3⟩
      · exact .inr ⟨h1, pre' ++ [⟨x, hx⟩], by simp, h2⟩
    · rintro e W' ⟨he, h⟩
      refine ⟨he, ?_⟩
      rcases h with ⟨ys, hys, pre', h1, h2⟩ | ⟨pre, ⟨k, hk, hp2⟩, pre', h1, h2⟩
      · exact .inl ⟨pre', h1.trans hys, h2⟩
      · exact .inr ⟨pre', ⟨k, hk, h1.trans hp2⟩, h2⟩
end Go.Proofs.Ytkpbjkhgiackpaa
