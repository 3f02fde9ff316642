/- Words of this seat's walks: slices that are read, rows of the call's own that grow. For any program. -/
import Derived.Test.YtjleiifcigojoaaBase
import Derived.Deep.AppendLies
import Derived.Deep.MidRow
namespace Go.Proofs.Ytjleiifcigojoaa
open Go.RowKit
set_option linter.unusedSimpArgs false

/-! ### A slice that is read -/
def Sl {α : Type} (f : α → Value) (W : World) (A : Option Addr) (xs : List α) : Prop :=
  xs.length ≤ 9223372036854775807 ∧ ∀ (i : Nat) (x : α), xs[i]? = some x → ∃ b o, A = some ⟨b, o, none⟩ ∧ W.cell? ⟨b, o + i, none⟩ = some (f x)
section
variable {α : Type} {f : α → Value} {W W' : World} {A : Option Addr} {xs : List α}
theorem Sl.below (h : Sl f W A xs) (hb : Below W.heap.size W W') : Sl f W' A xs :=
  ⟨h.1, fun i x hx => by obtain ⟨b, o, hA, hc⟩ := h.2 i x hx; exact ⟨b, o, hA, cell_below hb hc⟩⟩
theorem Sl.nil (W : World) (A : Option Addr) : Sl f W A [] := ⟨by simp, fun i x hx => by simp at hx⟩
theorem Sl.at_ (h : Sl f W A xs) (i : Nat) (hi : i < xs.length) : ∃ b o, A = some ⟨b, o, none⟩ ∧ W.cell? ⟨b, o + i, none⟩ = some (f xs[i]) := h.2 i _ (List.getElem?_eq_getElem hi)
/-- The cells of a slice that is not empty lie in one block, one behind the other. -/
theorem Sl.all (h : Sl f W A xs) (h0 : 0 < xs.length) : ∃ b o, A = some ⟨b, o, none⟩ ∧ ∀ (i : Nat) (x : α), xs[i]? = some x → W.cell? ⟨b, o + i, none⟩ = some (f x) := by
  obtain ⟨b, o, hA, _⟩ := h.at_ 0 h0
  refine ⟨b, o, hA, fun i x hx => ?_⟩
  obtain ⟨b', o', hA', hc⟩ := h.2 i x hx
  rw [hA] at hA'
  injection hA' with e
  injection e with e1 e2
  subst e1; subst e2
  exact hc
theorem Sl.of_row {b o : Nat} (hl : xs.length ≤ 9223372036854775807) (h : ∀ (i : Nat) (x : α), xs[i]? = some x → W.cell? ⟨b, o + i, none⟩ = some (f x)) : Sl f W (some ⟨b, o, none⟩) xs := ⟨hl, fun i x hx => ⟨b, o, rfl, h i x hx⟩⟩
theorem Sl.lt (h : Sl f W A xs) (h0 : 0 < xs.length) : ∀ b o, A = some ⟨b, o, none⟩ → b < W.heap.size := by
  intro b o hA
  obtain ⟨b', o', hA', hc⟩ := h.at_ 0 h0
  rw [hA] at hA'
  injection hA' with e
  injection e with e1 e2
  subst e1
  exact World.block_lt_of_cell? W _ hc
theorem Sl.row_ne (h : Sl f W A xs) {g : Nat} (hne : ∀ b o, A = some ⟨b, o, none⟩ → b ≠ g) (cs : Array Value) : Sl f (W.setRow g cs) A xs :=
  ⟨h.1, fun i x hx => by
    obtain ⟨b, o, hA, hc⟩ := h.2 i x hx
    exact ⟨b, o, hA, by rw [cell_setRow_other W g cs _ (hne b o hA)]; exact hc⟩⟩
theorem Sl.take (h : Sl f W A xs) (n : Nat) : Sl f W A (xs.take n) :=
  ⟨by rw [List.length_take]; have := h.1; omega, fun i x hx => h.2 i x (by rw [List.getElem?_take] at hx; split at hx <;> simp_all)⟩
theorem Sl.drop (h : Sl f W A xs) (c l : Nat) (hc : xs.length ≤ c) : Sl f W (if c = l then A else A.map (·.add (l * 1))) (xs.drop l) := by
  refine ⟨by rw [List.length_drop]; have := h.1; omega, fun i x hx => ?_⟩
  rw [List.getElem?_drop] at hx
  have hlt : l + i < xs.length := (List.getElem?_eq_some_iff.1 hx).1
  obtain ⟨b, o, rfl, hcell⟩ := h.2 _ x hx
  rw [if_neg (by omega)]
  by_cases h0 : l = 0
  · subst h0
    exact ⟨b, o, by simp [Addr.add], by simpa using hcell⟩
  · exact ⟨b, o + l, by simp [Addr.add, h0], by rw [Nat.add_assoc]; exact hcell⟩
end
theorem run_slice_cut {P : Program} {α : Type} {f : α → Value} {W : World} {A : Option Addr} {xs : List α} (h : Sl f W A xs) (t e : TypeId) (c l : Nat) (k : IntKind) (lo : Int) (hlo : lo = (l : Int)) (ht : P.underlying t = some (.slice e)) (hi : (P.info? e).map (·.size) = some 1) (hl : l ≤ xs.length) (hc : xs.length ≤ c) :
    ∃ A', Sl f W A' (xs.drop l) ∧ (∀ b o, A' = some ⟨b, o, none⟩ → ∃ o', A = some ⟨b, o', none⟩) ∧ ∀ w, (Instr.sliceAt t (.slice A xs.length c) (some (.int k lo)) none none).run P w = .ok (.slice A' (xs.length - l) (c - l)) w := by
  subst hlo
  refine ⟨_, h.drop c l hc, fun b o hbo => ?_, fun w => ?_⟩
  · by_cases hcl : c = l
    · rw [if_pos hcl] at hbo; exact ⟨o, hbo⟩
    · rw [if_neg hcl] at hbo
      obtain ⟨ad, had, hadd⟩ := Option.map_eq_some_iff.1 hbo
      obtain ⟨b', o', s'⟩ := ad
      unfold Addr.add at hadd
      split at hadd
      · injection hadd with e1 e2 e3
        subst e1; subst e3
        exact ⟨o', had⟩
      · injection hadd with e1 e2 e3
        subst e1
        cases s' with
        | none => exact ⟨o', had⟩
        | some q =>
          rcases Nat.eq_zero_or_pos xs.length with h0 | h0
          · omega
          · obtain ⟨b1, o1, hA, _⟩ := h.at_ 0 h0
            rw [had] at hA
            injection hA with e
            injection e with _ _ e3
            cases e3
  have hte : P.elem t = e := by simp [Program.elem, ht]
  obtain ⟨ei, he1, he2⟩ := Option.map_eq_some_iff.1 hi
  rw [run_sliceAt_slice (h := by rw [ht, hte]), run_slice_l (ht := by rw [ht, hte]) (h0 := by omega) (h1 := by omega)]
  simp [hte, sizeOf, typeInfo, he1, he2, sliced]
theorem run_slice_mid {P : Program} {α : Type} {f : α → Value} {W : World} {A : Option Addr} {xs : List α} (h : Sl f W A xs) (t e : TypeId) (c l r : Nat) (k k' : IntKind) (lo hi : Int) (hlo : lo = (l : Int)) (hhi : hi = (r : Int)) (ht : P.underlying t = some (.slice e)) (hi1 : (P.info? e).map (·.size) = some 1) (hl : l ≤ r) (hr : r ≤ xs.length) (hc : xs.length ≤ c) :
    ∃ A', Sl f W A' ((xs.drop l).take (r - l)) ∧ ∀ w, (Instr.sliceAt t (.slice A xs.length c) (some (.int k lo)) (some (.int k' hi)) none).run P w = .ok (.slice A' (r - l) (c - l)) w := by
  subst hlo; subst hhi
  refine ⟨_, (h.drop c l hc).take (r - l), fun w => ?_⟩
  have hte : P.elem t = e := by simp [Program.elem, ht]
  obtain ⟨ei, he1, he2⟩ := Option.map_eq_some_iff.1 hi1
  rw [run_sliceAt_slice (h := by rw [ht, hte]), run_slice_lh (ht := by rw [ht, hte]) (h0 := by omega) (h1 := by omega) (h2 := by omega)]
  simp [hte, sizeOf, typeInfo, he1, he2, sliced]
/-- '[n]T(s)', s a slice that is long enough. -/
theorem run_arrayAt {P : Program} (t e n : Nat) (a : Addr) (len c : Nat) (ht : P.underlying t = some (.array n e)) (hn : n ≤ len) (w : World) :
    (Instr.arrayAt t (.slice (some a) len c)).run P w = .ok (.pointer (some a)) w := by
  simp [Instr.arrayAt, run_underlying ht, Nat.not_lt.2 hn]

/-! ### Rows of the call's own -/
section
variable {P : Program} {ops : Array Oper} {rest : List Oper} {o : Oper} {a : Act} {Q : Exit → Act → World → Prop}
theorem owns_slice {w : World} {base n : Nat} {e : TypeId} {size : Nat} {v : Value} {xs : List Value} (h : w.ownsRow base e size v n xs) : ∃ A c, v = .slice A n c ∧ n ≤ c := by
  rcases h.2 with ⟨rfl, rfl⟩ | ⟨g, cap, cur, rfl, _, _, h1, _⟩
  · exact ⟨none, 0, rfl, Nat.le_refl _⟩
  · exact ⟨_, cap, rfl, h1⟩
theorem owns_sl {α : Type} {f : α → Value} {w : World} {base n : Nat} {e : TypeId} {v : Value} {xs : List α} (h : w.ownsRow base e 1 v n (xs.map f)) : ∃ A c, v = .slice A n c ∧ n ≤ c ∧ xs.length = n ∧ Sl f w A xs := by
  have hl : xs.length = n := by have := h.1; simpa using this
  rcases h.2 with ⟨rfl, rfl⟩ | ⟨g, cap, cur, rfl, _, hg, h1, h2, h3, h4⟩
  · obtain rfl : xs = [] := List.eq_nil_of_length_eq_zero hl
    exact ⟨none, 0, rfl, Nat.le_refl _, rfl, Sl.nil _ _⟩
  · refine ⟨_, cap, rfl, h1, hl, Sl.of_row (by rw [hl]; unfold maxLen at h2; omega) fun i x hx => ?_⟩
    have hc := h.cells (g := g) rfl i (f x) (by simp [hx])
    have ha : (⟨g, 0, none⟩ : Addr).add i = ⟨g, 0 + i, none⟩ := by unfold Addr.add; split <;> simp_all
    rwa [ha] at hc
theorem owns_base {w : World} {base : Nat} {e : TypeId} {size n : Nat} {v : Value} {xs : List Value} (h : w.ownsRow base e size v n xs) (k : Nat) (hk : v.ownBlock = some k) : base ≤ k := (h.lt k hk).1
theorem owns_below {w w1 : World} {base : Nat} {e : TypeId} {size n : Nat} {v : Value} {xs : List Value} (h : w.ownsRow base e size v n xs) (hb : Below w.heap.size w w1) : w1.ownsRow base e size v n xs :=
  h.kept (row := none) ⟨hb.os, hb.tape, hb.output, hb.size, fun i hi _ => hb.block i hi⟩ (by cases v.ownBlock <;> simp)
theorem owns_drew {w : World} {base n : Nat} {e : TypeId} {size : Nat} {v : Value} {xs : List Value} (h : w.ownsRow base e size v n xs) : w.drew.ownsRow base e size v n xs := h
theorem Own.grown {W W' : World} {g : Nat} {t : TypeId} {cs : Array Value} (h : Own W g t cs) {row : Option Nat} (hg : W.grownBy W' row) (hne : row ≠ some g) : Own W' g t cs := (hg.block g h.lt (fun e => hne e.symm)).trans h
theorem Sl.grown {α : Type} {f : α → Value} {W W' : World} {A : Option Addr} {xs : List α} (h : Sl f W A xs) {row : Option Nat} (hg : W.grownBy W' row) (hne : ∀ b o, A = some ⟨b, o, none⟩ → row ≠ some b) : Sl f W' A xs :=
  ⟨h.1, fun i x hx => by
    obtain ⟨b, o, hA, hc⟩ := h.2 i x hx
    exact ⟨b, o, hA, hg.cell hc (fun e => hne b o hA e.symm)⟩⟩
/-- 'append(s, y)': behind the box of the one. -/
theorem wpList_append1 {w0 W : World} (base : Nat) (hgd : o.guard = none) (s x : Operand) (t e : TypeId) (z : Value) (bytes : Nat)
    (ho : o.op = .call { callee := .builtin .append, args := #[s, x], argTypes := #[t, t] })
    (ht : P.underlying t = some (.slice e)) (hinfo : (P.info? e).map (fun i => (i.zero, i.size, i.bytes)) = some (some z, 1, bytes)) (hz : z.cells.size = 1) (hb0 : 0 < bytes)
    (v : Value) (xs : List Value) (y : Value) (hs : a.eval s = v) (hx : a.eval x = .slice (some ⟨W.heap.size, 0, none⟩) 1 1) (h1 : y.oneCell' = true)
    (HO : W.ownsRow base e 1 v xs.length xs) (HB : Below base w0 W) (hbase : base ≤ W.heap.size) (hl : (xs.length + 1) * bytes ≤ 140737488355328)
    (h : ∀ v1 w1, w1.ownsRow base e 1 v1 (xs ++ [y]).length (xs ++ [y]) → Below base w0 w1 → W.grownBy w1 v.ownBlock → wpList P ops Q rest (a.put o.dst v1) w1) :
    wpList P ops Q (o :: rest) a (W.alloc (.cells #[y] e)) := by
  obtain ⟨i0, hi, hzz⟩ := Option.map_eq_some_iff.1 hinfo
  simp only [Prod.mk.injEq] at hzz
  obtain ⟨hz0, hz1, hz2⟩ := hzz
  have hlen : xs.length + 1 ≤ 140737488355328 := Nat.le_trans (Nat.le_mul_of_pos_right _ hb0) hl
  refine wpList_append_own_at (W.alloc (.cells #[y] e)) hgd s x t ho base e i0 z 1 bytes ht hi hz0 hz1 hz2 hz (by omega) v xs.length xs hs (HO.alloc _) ⟨W.heap.size, 0, none⟩ 1 1 [y] hx rfl
    (World.news_of_block (cs := #[y]) (t := e) (fr := (0, 0)) (Go.heap_alloc_new W _)) (by simpa using h1) (by simp only [maxLen]; omega) hl (by simp; omega) ?_
  intro v1 w1 hown hg _ _
  exact h v1 w1 (by simpa using hown) ((HB.alloc hbase _).grown hg (by simp; omega) (owns_base HO)) (World.grownBy.trans (World.grownBy_alloc W _ _) hg)
/-- 'append(s, ys...)': ys a slice that is read, nil let in. -/
theorem wpList_append_sl {α : Type} {f : α → Value} (hf : ∀ x, (f x).oneCell' = true) {w0 W : World} (base : Nat) (hgd : o.guard = none) (s x : Operand) (t e : TypeId) (z : Value) (bytes : Nat)
    (ho : o.op = .call { callee := .builtin .append, args := #[s, x], argTypes := #[t, t] })
    (ht : P.underlying t = some (.slice e)) (hinfo : (P.info? e).map (fun i => (i.zero, i.size, i.bytes)) = some (some z, 1, bytes)) (hz : z.cells.size = 1) (hb0 : 0 < bytes)
    (v : Value) (xs : List Value) (ys : List α) (A : Option Addr) (c : Nat) (hs : a.eval s = v) (hx : a.eval x = .slice A ys.length c)
    (HO : W.ownsRow base e 1 v xs.length xs) (HR : Sl f W A ys) (HB : Below base w0 W) (hbase : base ≤ W.heap.size) (hl : (xs.length + ys.length) * bytes ≤ 140737488355328)
    (h : ∀ v1 w1, w1.ownsRow base e 1 v1 (xs ++ ys.map f).length (xs ++ ys.map f) → Below base w0 w1 → W.grownBy w1 v.ownBlock → wpList P ops Q rest (a.put o.dst v1) w1) :
    wpList P ops Q (o :: rest) a W := by
  obtain ⟨i0, hi, hzz⟩ := Option.map_eq_some_iff.1 hinfo
  simp only [Prod.mk.injEq] at hzz
  obtain ⟨hz0, hz1, hz2⟩ := hzz
  have hlen : xs.length + ys.length ≤ 140737488355328 := Nat.le_trans (Nat.le_mul_of_pos_right _ hb0) hl
  have hrun : ∃ v1 w1, (Builtin.append_ #[t, t] o.type #[v, .slice A ys.length c]).run P W = .ok v1 w1 ∧ w1.ownsRow base e 1 v1 (xs ++ ys.map f).length (xs ++ ys.map f) ∧ W.grownBy w1 v.ownBlock := by
    rcases Nat.eq_zero_or_pos ys.length with h0 | h0
    · obtain rfl : ys = [] := List.eq_nil_of_length_eq_zero h0
      refine ⟨v, W, ?_, by simpa using HO, World.grownBy.refl W _⟩
      rcases HO.2 with ⟨rfl, hn⟩ | ⟨g, cap, cur, rfl, _, hg, hnc, hcm, hcs, _⟩
      · cases A <;> simp [Builtin.append_, run_underlying ht, sizeOf, typeInfo, hi, Builtin.lenOf, Builtin.firstCells, loadCells, loadCellsFrom]
      · cases A with
        | none => simp [Builtin.append_, run_underlying ht, sizeOf, typeInfo, hi, Builtin.lenOf, Builtin.firstCells, hnc, storeCells]
        | some ad => simp [Builtin.append_, run_underlying ht, sizeOf, typeInfo, hi, Builtin.lenOf, Builtin.firstCells, hnc, storeCells, loadCells, loadCellsFrom]
    · obtain ⟨b, o1, rfl, hcells⟩ := HR.all h0
      obtain ⟨v1, w1, hr, h2, h3, _, _⟩ := run_append_own_at (P := P) W base t o.type e i0 z 1 bytes ht hi hz0 hz1 hz2 hz (by omega) v xs.length xs HO ⟨b, o1, none⟩ ys.length c (ys.map f) (by simp)
        (by
          intro j u hu
          rw [List.getElem?_map] at hu
          obtain ⟨x, hx1, hx2⟩ := Option.map_eq_some_iff.1 hu
          subst hx2
          have ha : (⟨b, o1, none⟩ : Addr).add j = ⟨b, o1 + j, none⟩ := by unfold Addr.add; split <;> simp_all
          rw [ha]
          exact hcells j x hx1)
        (by intro u hu; obtain ⟨q, _, rfl⟩ := List.mem_map.1 hu; exact hf q) (by simp only [maxLen]; omega) hl hbase
      exact ⟨v1, w1, hr, by simpa using h2, h3⟩
  obtain ⟨v1, w1, hr, hown, hg⟩ := hrun
  refine wpList_plain hgd fun K hK => ?_
  unfold Oper.wp execOp
  simp only [ho, resolve, invoke, builtin, Sem.run_bind, Sem.run_pure, Result.andThen_ok, List.map_toArray, List.map_cons, List.map_nil, hs, hx, hr]
  exact hK _ _ (h v1 w1 hown (HB.grown hg hbase (owns_base HO)) hg)
end
/-- A load of a whole array of the call's own may be taken first. -/
theorem yieldsIf_load_own {P : Program} {ops : Array Oper} {S : World → Prop} {op : Oper} {a : Act} (hw : Region.wanted op (yielded ops a.tmps) = true) (ty : TypeId) (x : Operand) (ho : op.op = .load ty x)
    (g : Nat) (hx : a.eval x = .pointer (some ⟨g, 0, none⟩)) (t : TypeId) (cs : Array Value) (d : TypeDesc) (hS : ∀ W, S W → Own W g t cs)
    (hu : P.underlying ty = some d) (hd : (match d with | .struct _ | .array _ _ => true | _ => false) = true) (hi : (P.info? ty).map (·.size) = some cs.size) : YieldsIf P ops S op (.agg cs) a :=
  .inl ⟨hw, fun w hw' => by
    unfold execOp
    simp only [ho, hx, Instr.loadAt, Instr.sureAddr, Sem.run_bind, Sem.run_pure, Result.andThen_ok, run_loadVar_row w g t ty cs (0, 0) d (hS w hw') hu hd hi]⟩
def lenOf : Value → Nat | .slice _ n _ => n | _ => 0
theorem Sl.range {α : Type} {f : α → Value} {W : World} {b o : Nat} {xs : List α} (h : ∀ (i : Nat) (x : α), xs[i]? = some x → W.cell? ⟨b, o + i, none⟩ = some (f x)) (n : Nat) : W.rangeAt b o ((xs.take n).map f) := by
  intro j u hu
  rw [List.getElem?_map] at hu
  obtain ⟨x, hx1, rfl⟩ := Option.map_eq_some_iff.1 hu
  refine h j x ?_
  rw [List.getElem?_take] at hx1
  split at hx1 <;> simp_all
section
variable {P : Program} {ops : Array Oper} {rest : List Oper} {o : Oper} {a : Act} {Q : Exit → Act → World → Prop}
theorem wpList_app1 {α : Type} {f : α → Value} (hf : ∀ x, (f x).oneCell' = true) {w0 W : World} (base : Nat) (hgd : o.guard = none) (s x : Operand) (t e : TypeId) (z : Value) (bytes : Nat)
    (ho : o.op = .call { callee := .builtin .append, args := #[s, x], argTypes := #[t, t] })
    (ht : P.underlying t = some (.slice e)) (hinfo : (P.info? e).map (fun i => (i.zero, i.size, i.bytes)) = some (some z, 1, bytes)) (hz : z.cells.size = 1) (hb0 : 0 < bytes)
    (v : Value) (xs : List α) (y : α) {u : Value} (hu : f y = u) (hs : a.eval s = v) (hx : a.eval x = .slice (some ⟨W.heap.size, 0, none⟩) 1 1)
    (HO : W.ownsRow base e 1 v xs.length (xs.map f)) (HB : Below base w0 W) (hbase : base ≤ W.heap.size) (hl : (xs.length + 1) * bytes ≤ 140737488355328)
    (h : ∀ v1 w1, w1.ownsRow base e 1 v1 (xs ++ [y]).length ((xs ++ [y]).map f) → Below base w0 w1 → W.grownBy w1 v.ownBlock → wpList P ops Q rest (a.put o.dst v1) w1) :
    wpList P ops Q (o :: rest) a (W.alloc (.cells #[u] e)) := by
  subst hu
  refine wpList_append1 base hgd s x t e z bytes ho ht hinfo hz hb0 v (xs.map f) (f y) hs hx (hf y) (by simpa using HO) HB hbase (by simpa using hl) ?_
  intro v1 w1 h1 h2 h3
  exact h v1 w1 (by simpa using h1) h2 h3
theorem wpList_apps {α : Type} {f : α → Value} (hf : ∀ x, (f x).oneCell' = true) {w0 W : World} (base : Nat) (hgd : o.guard = none) (s x : Operand) (t e : TypeId) (z : Value) (bytes : Nat)
    (ho : o.op = .call { callee := .builtin .append, args := #[s, x], argTypes := #[t, t] })
    (ht : P.underlying t = some (.slice e)) (hinfo : (P.info? e).map (fun i => (i.zero, i.size, i.bytes)) = some (some z, 1, bytes)) (hz : z.cells.size = 1) (hb0 : 0 < bytes)
    (v : Value) (xs ys : List α) (A : Option Addr) (c : Nat) (hs : a.eval s = v) (hx : a.eval x = .slice A ys.length c)
    (HO : W.ownsRow base e 1 v xs.length (xs.map f)) (HR : Sl f W A ys) (HB : Below base w0 W) (hbase : base ≤ W.heap.size) (hl : (xs.length + ys.length) * bytes ≤ 140737488355328)
    (h : ∀ v1 w1, w1.ownsRow base e 1 v1 (xs ++ ys).length ((xs ++ ys).map f) → Below base w0 w1 → W.grownBy w1 v.ownBlock → wpList P ops Q rest (a.put o.dst v1) w1) :
    wpList P ops Q (o :: rest) a W := by
  refine wpList_append_sl hf base hgd s x t e z bytes ho ht hinfo hz hb0 v (xs.map f) ys A c hs hx (by simpa using HO) HR HB hbase (by simpa using hl) ?_
  intro v1 w1 h1 h2 h3
  exact h v1 w1 (by simpa using h1) h2 h3
end
/-- 'T{}': a row of none. -/
theorem owns_made0 {α : Type} {f : α → Value} (W : World) (base : Nat) (e : TypeId) {g : Nat} (hg : g = W.heap.size) (hb : base ≤ W.heap.size) :
    (W.alloc (.cells #[] e)).ownsRow base e 1 (.slice (some ⟨g, 0, none⟩) 0 0) ([] : List α).length (([] : List α).map f) := by
  subst hg
  exact World.ownsRow_made W #[] 0 hb (by unfold maxLen; omega) rfl
/-- What a function hands back that makes a slice. -/
def RetSl {α : Type} (f : α → Value) (w : World) (xs : List α) (e : Ending) (w' : World) : Prop :=
  ∃ A c, e = .returned (.slice A xs.length c) ∧ xs.length ≤ c ∧ Sl f w' A xs ∧ Below w.heap.size w w'
theorem sl8_ne_own32 {W : World} {A : Option Addr} {xs : List U8} (h : Sl v8 W A xs) (h0 : 0 < xs.length) {g : Nat} {t : TypeId} {ys : List U32} (ho : Own W g t (cs32 ys)) : ∀ b o, A = some ⟨b, o, none⟩ → b ≠ g := by
  intro b o hA e
  subst e
  obtain ⟨b', o', hA', hc⟩ := h.at_ 0 h0
  rw [hA] at hA'
  injection hA' with e
  injection e with e1 e2
  subst e1
  rw [ho.cell] at hc
  simp only [cs32, List.getElem?_toArray, List.getElem?_map] at hc
  obtain ⟨y, _, hy⟩ := Option.map_eq_some_iff.1 hc
  simp [v32, v8] at hy
theorem sl8_ne_own64 {W : World} {A : Option Addr} {xs : List U8} (h : Sl v8 W A xs) (h0 : 0 < xs.length) {g : Nat} {t : TypeId} {ys : List U64} (ho : Own W g t (cs64 ys)) : ∀ b o, A = some ⟨b, o, none⟩ → b ≠ g := by
  intro b o hA e
  subst e
  obtain ⟨b', o', hA', hc⟩ := h.at_ 0 h0
  rw [hA] at hA'
  injection hA' with e
  injection e with e1 e2
  subst e1
  rw [ho.cell] at hc
  simp only [cs64, List.getElem?_toArray, List.getElem?_map] at hc
  obtain ⟨y, _, hy⟩ := Option.map_eq_some_iff.1 hc
  simp [v64, v8] at hy
theorem v8_one (x : U8) : (v8 x).oneCell' = true := rfl
theorem v32_one (x : U32) : (v32 x).oneCell' = true := rfl
theorem v64_one (x : U64) : (v64 x).oneCell' = true := rfl
end Go.Proofs.Ytjleiifcigojoaa
