/- What comes in, opened: a struct of two arrays. For any program. -/
import Derived.Test.YtjhfmlnfbmckfaaLaw
namespace Go.Proofs.Ytjhfmlnfbmckfaa
open Go.RowKit Go.ChangeShapes Go.WideShapes
section
variable {H : Type} {enc : TypeId × Value → H} {P : Program} {w : World} {b0 base : Nat} {r : Reach} {spare : Nat → Bool} {held : Bool} {t t0 t1 e n m : Nat} {v : Value} {d : DataW H} {ps : List MemPlace}
theorem open_cells {α : Type} {f : α → Value} {k : IntKind} {j : α → Int} (hf : ∀ x, f x = .int k (j x)) (hj : ∀ z, (Lit.int k z).wf = true → ∃ x, z = j x) (ht : P.underlying t = some (.array n e)) (he : P.underlying e = some (.int k)) (hc : P.cellsOf e = 1)
    {cs : List Value} (hsz : cs.length = n) {fuel : Nat} {x : DataW H × List MemPlace} (hfu : DataW.trod enc P w base spare held fuel t cs = some x) : ∃ xs : List α, cs = xs.map f ∧ x.2 = [] := by
  obtain ⟨ys, m, _, hx, hl, hyl, hel⟩ := DataW.trod_array ht hfu
  rw [hc] at hel
  have each : ∀ i (h : i < cs.length), ∃ y ∈ ys[i]?, y.2 = [] ∧ ∃ x, cs[i] = f x := by
    intro i h
    have hi : i < n := by omega
    have h1 := hel i hi
    have h2 : (List.take 1 (List.drop (i * 1) cs)) = [cs[i]] := by
      rw [Nat.mul_one, List.drop_eq_getElem_cons h]
      rfl
    rw [h2, List.getElem?_eq_getElem (by omega)] at h1
    obtain ⟨z, hz1, hz2, hz3⟩ := DataW.trod_int he h1
    obtain ⟨x, rfl⟩ := hj z hz3
    refine ⟨ys[i], by simp, by rw [hz2], x, ?_⟩
    rw [hf]; simpa using hz1
  obtain ⟨xs, hxs⟩ := list_of (f := f) cs fun z hz => by
    obtain ⟨i, hi, rfl⟩ := List.getElem_of_mem hz
    obtain ⟨_, _, _, x, h⟩ := each i hi
    exact ⟨x, h⟩
  refine ⟨xs, hxs, ?_⟩
  rw [hx]
  show List.flatMap _ _ = []
  rw [List.flatMap_eq_nil_iff]
  intro y hy
  obtain ⟨i, hi, rfl⟩ := List.getElem_of_mem hy
  obtain ⟨y', hy', h, _⟩ := each i (by omega)
  rw [List.getElem?_eq_getElem hi] at hy'
  simp at hy'
  rw [hy']; exact h
/-- A struct of two arrays of whole numbers of one kind. -/
theorem open_two {α : Type} {f : α → Value} {k : IntKind} {j : α → Int} (hf : ∀ x, f x = .int k (j x)) (hj : ∀ z, (Lit.int k z).wf = true → ∃ x, z = j x) {fs : Array Field} (ht : P.underlying t = some (.struct fs)) (hfs : fs.toList.map (fun f => (f.offset, f.type)) = [(0, t0), (n, t1)])
    (h0 : P.underlying t0 = some (.array n e)) (h1 : P.underlying t1 = some (.array m e)) (he : P.underlying e = some (.int k)) (hc : P.cellsOf e = 1) (hc0 : P.cellsOf t0 = n) (hc1 : P.cellsOf t1 = m) (hcn : P.cellsOf t = n + m)
    (hval : Value.okWide P w r b0 t v) (hd : DataW.Trod enc P w base spare held t v d ps) : ∃ xs : List α, v = .agg (xs.map f).toArray ∧ xs.length = n + m ∧ ps = [] := by
  simp only [Value.okWide, ht] at hval
  obtain ⟨cs, rfl, hsz, _⟩ := hval
  obtain ⟨fuel, hfu⟩ := hd
  have hfs' : ∃ f0 f1, fs = #[f0, f1] ∧ f0.offset = 0 ∧ f0.type = t0 ∧ f1.offset = n ∧ f1.type = t1 := by
    obtain ⟨l⟩ := fs
    match l, hfs with
    | [f0, f1], hfs =>
      simp only [List.map_cons, List.map_nil, List.cons.injEq, Prod.mk.injEq, and_true] at hfs
      exact ⟨f0, f1, rfl, hfs.1.1, hfs.1.2, hfs.2.1, hfs.2.2⟩
    | [], hfs => simp at hfs
    | [_], hfs => simp at hfs
    | _ :: _ :: _ :: _, hfs => simp at hfs
  obtain ⟨f0, f1, rfl, a0, rfl, a1, rfl⟩ := hfs'
  obtain ⟨y0, y1, nn, hx, hl, hy0, hy1⟩ := trod_struct2 ht hfu
  rw [a0, hc0] at hy0
  rw [a1, hc1] at hy1
  have hsz' : (Value.agg cs).cells.toList.length = n + m := by rw [hl, hcn]
  obtain ⟨xs, hxs, e0⟩ := open_cells hf hj h0 he hc (by rw [List.length_take, List.length_drop]; omega) hy0
  obtain ⟨zs, hzs, e1⟩ := open_cells hf hj h1 he hc (by rw [List.length_take, List.length_drop]; omega) hy1
  have hcs : cs.toList = (xs ++ zs).map f := by
    have hcs0 : (Value.agg cs).cells.toList = cs.toList := rfl
    rw [List.map_append, ← hxs, ← hzs, hcs0, List.drop_zero, List.take_of_length_le (l := List.drop n cs.toList) (by rw [List.length_drop]; rw [hcs0] at hsz'; omega), List.take_append_drop]
  refine ⟨xs ++ zs, by rw [← hcs], ?_, ?_⟩
  · have := congrArg List.length hcs
    rw [List.length_map] at this
    rw [← this]
    exact hsz'
  · injection hx with _ h2
    rw [h2, e0, e1]; rfl
end
end Go.Proofs.Ytjhfmlnfbmckfaa
