/- From a contract to a walk: a law that hands back true; slices that come in. For any program. -/
import Derived.Test.YtjleiifcigojoaaFn
namespace Go.Proofs.Ytjleiifcigojoaa
open Go Go.RowKit
theorem sound_true {P : Program} {F : FuncId} {C : CT} (h : Sound P F C) {cas : List CA} {vals : List Value} {W : World} (ha : argsOk W cas vals) (hC : C cas (fun r => r = .one (.v (.bool true)))) :
    Calls P F vals.toArray W fun e W' => e = .returned (.bool true) ∧ Below W.heap.size W W' := by
  obtain ⟨_, hc⟩ := h cas _ W vals ha hC
  refine hc.mono fun e W' ⟨r, V, he, hr, hb, hK⟩ => ?_
  subst hK
  obtain ⟨_, rfl⟩ := hr
  exact ⟨he, hb⟩
theorem sl_id {α : Type} {f : α → Value} {W : World} {A : Option Addr} {xs : List α} (h : Sl f W A xs) : Sl id W A (xs.map f) := by
  refine ⟨by simpa using h.1, fun i x hx => ?_⟩
  rw [List.getElem?_map] at hx
  obtain ⟨y, hy, rfl⟩ := Option.map_eq_some_iff.1 hx
  exact h.2 i y hy
theorem slice_blk {P : Program} {w : World} {r : Go.Reach} {b0 : Nat} {t e : TypeId} {A : Option Addr} {len cap : Nat} (ht : P.underlying t = some (.slice e)) (hval : Value.okWide P w r b0 t (.slice A len cap)) : ∀ k, blkA A = some k → k < w.heap.size := by
  intro k hk
  cases A with
  | none => cases hk
  | some a =>
    injection hk with hk
    subst hk
    simp only [Value.okWide, ht, Cell.okWide, Cell.ok] at hval
    obtain ⟨_, _, _, _, row, cells, hs, _⟩ := hval
    unfold World.shape? at hs
    cases hg : w.heap[a.block]? with
    | none => rw [hg] at hs; cases hs
    | some o => exact (Array.getElem?_eq_some_iff.1 hg).1
/-- A slice that comes in, as it is handed on. -/
theorem argOk_sl {P : Program} {w : World} {r : Go.Reach} {b0 : Nat} {t e : TypeId} {A : Option Addr} {cs : Cells} {cap : Nat} {α : Type} {f : α → Value} {xs : List α} (hv : cs.vals = xs.map f) (ht : P.underlying t = some (.slice e)) (hval : Value.okWide P w r b0 t (.slice A xs.length cap)) (hc : xs.length ≤ cap) (h : Sl f w A xs) :
    argOk w (.s cs) (.slice A xs.length cap) := by
  have hl : cs.len = xs.length := by rw [← Cells.vals_length, hv, List.length_map]
  exact ⟨A, cap, by rw [hl], by rw [hl]; exact hc, by rw [hv]; exact sl_id h, slice_blk ht hval⟩
end Go.Proofs.Ytjleiifcigojoaa
