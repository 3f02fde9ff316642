/- Slices of slices of bytes that come in, opened. For any program. -/
import Derived.Test.YtlcaobnojbkmbaaLr
import Derived.ChangeSlices
namespace Go.Proofs.Ytlcaobnojbkmbaa
open Go Go.RowKit Go.ChangeShapes Go.WideShapes
set_option linter.unusedVariables false
set_option linter.unusedSimpArgs false
theorem cell_lt {w : World} {a : Addr} {v : Value} (h : w.cell? a = some v) : a.block < w.heap.size := by
  unfold World.cell? at h
  rcases Nat.lt_or_ge a.block w.heap.size with hb | hb
  · exact hb
  · rw [Array.getElem?_eq_none hb] at h
    simp at h
section
variable {H : Type} {enc : TypeId × Value → H} {P : Program} {w : World} {base b0 : Nat} {r : Reach} {held : Bool}
/-- One piece. -/
theorem open_piece {t e : TypeId} {fuel : Nat} {cs : List Value} {x : DataW H × List MemPlace} (ht : P.underlying t = some (.slice e)) (he : P.underlying e = some (.int .u8)) (hc : P.cellsOf e = 1)
    (h : DataW.trod enc P w base (fun _ => true) held fuel t cs = some x) : ∃ q : Option Addr × Nat × List U8, cs = [.slice q.1 q.2.2.length q.2.1] ∧ InS v8 w q.2.2 q.1 q.2.1 := by
  rcases open_ints ht he hc h with ⟨hcs, _⟩ | ⟨x, l, c, zs, hcs, _, hl, hm, hz, _, hcell, hwz⟩
  · exact ⟨(none, 0, []), hcs, ⟨Nat.le_refl _, Sl.nil _ _, fun k hk => by cases blkC_A hk⟩⟩
  · simp only [if_true] at hz
    obtain ⟨xs, hxs⟩ := list_of (f := fun y : U8 => i8 y) zs fun z hz => of_wf8 (hwz z hz)
    subst hxs
    have hxl : xs.length = c := by simpa using hz
    have hlen : (xs.take l).length = l := by rw [List.length_take]; omega
    refine ⟨(some x, c, xs.take l), by rw [hcs, hlen], ⟨by simp only [hlen]; omega, ⟨by unfold maxLen at hm; dsimp only; omega, fun i y hy => ?_⟩, fun k hk => ?_⟩⟩
    · have hi : i < l := by rw [← hlen]; exact (List.getElem?_eq_some_iff.1 hy).1
      have hy' : xs[i]? = some y := by rw [List.getElem?_take, if_pos hi] at hy; exact hy
      have h0 := World.cell?_spot (hcell 0 (by simp; omega))
      obtain ⟨b, o, spot⟩ := x
      have hs : spot = none := by simpa [Addr.add] using h0
      subst hs
      refine ⟨b, o, rfl, ?_⟩
      have h1 := hcell i (by simp; omega)
      have ha : (⟨b, o, none⟩ : Addr).add i = ⟨b, o + i, none⟩ := by unfold Addr.add; split <;> simp_all
      rw [ha, List.getD_eq_getElem?_getD, List.getElem?_map, hy'] at h1
      rw [h1]; rfl
    · have hne := blkC_ne hk
      have hk := blkC_A hk
      have h1 := cell_lt (hcell 0 (by simp only at hne; simp; omega))
      injection hk with hk
      subst hk
      have : (x.add 0).block = x.block := by unfold Addr.add; split <;> rfl
      rwa [this] at h1
/-- Slices of slices of bytes. -/
theorem open_pieces {t e q : TypeId} {v : Value} {d : DataW H} {ps : List MemPlace} (ht : P.underlying t = some (.slice e)) (he : P.underlying e = some (.slice q)) (hq : P.underlying q = some (.int .u8)) (ce : P.cellsOf e = 1) (cq : P.cellsOf q = 1)
    (hval : Value.okWide P w r b0 t v) (hd : DataW.Trod enc P w base (fun _ => true) held t v d ps) :
    ∃ (A : Option Addr) (c : Nat) (xs : List AV) (qs : Nat → Option Addr × Nat × List U8), v = .slice A xs.length c ∧ xs.length ≤ c ∧ (∀ k, blkC A c = some k → k < w.heap.size) ∧ Sl id w A (xs.map AV.conc) ∧
      (∀ k, k < xs.length → xs.getD k .bad = .ros 310 (qs k).1 (qs k).2.2.length (qs k).2.1) ∧ ∀ k, InS v8 w (qs k).2.2 (qs k).1 (qs k).2.1 := by
  obtain ⟨A, len, cap, rfl⟩ := okWide_slice ht hval
  have hblk := slice_blk ht hval
  obtain ⟨fuel, hfu⟩ := hd
  rcases DataW.trod_slice ht hfu with ⟨hcs, _⟩ | ⟨a, l, c, elems, rest, n, _, hcs, _, hb, hl, hm, hlen, hel, _, _⟩
  · simp [Value.cells] at hcs
    obtain ⟨rfl, rfl, rfl⟩ := hcs
    exact ⟨none, 0, [], fun _ => (none, 0, []), rfl, Nat.le_refl _, fun k hk => hblk k (blkC_A hk), Sl.nil _ _, (fun k hk => by cases hk), fun k => ⟨Nat.le_refl _, Sl.nil _ _, fun k hk => by cases blkC_A hk⟩⟩
  · simp [Value.cells] at hcs
    obtain ⟨rfl, rfl, rfl⟩ := hcs
    have each : ∀ i, ∃ p : Option Addr × Nat × List U8, (i < len → w.cell? (a.add i) = some (.slice p.1 p.2.2.length p.2.1)) ∧ InS v8 w p.2.2 p.1 p.2.1 := by
      intro i
      by_cases hi : i < len
      · have h1 := hel i hi
        have h2 : elems[i]? = some (elems[i]'(by omega)) := List.getElem?_eq_getElem (by omega)
        rw [h2, ce, Nat.mul_one, Option.bind_eq_some_iff] at h1
        obtain ⟨cs', hc', hy⟩ := h1
        obtain ⟨p, hp, hin⟩ := open_piece he hq cq hy
        subst hp
        exact ⟨p, fun _ => cell_of_cells?_one hc', hin⟩
      · exact ⟨(none, 0, []), fun h => absurd h hi, ⟨Nat.le_refl _, Sl.nil _ _, fun k hk => by cases blkC_A hk⟩⟩
    obtain ⟨qs, hqs⟩ := Classical.axiomOfChoice each
    refine ⟨some a, cap, (List.range len).map fun k => .ros 310 (qs k).1 (qs k).2.2.length (qs k).2.1, qs, by simp, by simpa using hl, fun k hk => hblk k (blkC_A hk), ⟨by unfold maxLen at hm; simp; omega, fun i y hy => ?_⟩, fun k hk => ?_, fun k => (hqs k).2⟩
    · rw [List.getElem?_map, List.getElem?_map] at hy
      have hi : i < len := by
        rcases Nat.lt_or_ge i len with h | h
        · exact h
        · rw [List.getElem?_eq_none (by simpa using h)] at hy; cases hy
      rw [List.getElem?_range hi] at hy
      simp only [Option.map_some, Option.some.injEq] at hy
      subst hy
      have h1 := (hqs i).1 hi
      have h0 := World.cell?_spot ((hqs 0).1 (by omega))
      obtain ⟨b, o, spot⟩ := a
      have hs : spot = none := by simpa [Addr.add] using h0
      subst hs
      refine ⟨b, o, rfl, ?_⟩
      have ha : (⟨b, o, none⟩ : Addr).add i = ⟨b, o + i, none⟩ := by unfold Addr.add; split <;> simp_all
      rw [ha] at h1
      exact h1
    · have hk' : k < len := by simpa using hk
      rw [List.getD_eq_getElem?_getD, List.getElem?_map, List.getElem?_range hk']
      rfl
end
end Go.Proofs.Ytlcaobnojbkmbaa
