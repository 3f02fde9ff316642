/- A region that draws its order, in a round of a range over a function: by the engine. For any program. -/
import Derived.Test.YtjleiifcigojoaaChn
import Derived.RangeFuncOwn
import Derived.RangeFuncFrom
import Derived.RangeFuncCalls
import Derived.OrdersIn
import Derived.AtR
namespace Go.Proofs.Ytjleiifcigojoaa
open Go Go.RowKit
set_option linter.unusedVariables false
set_option linter.unusedSimpArgs false
variable {ds : List Deferred}
structure IsWide (F : Fence) : Prop where
  eq : F = Fence.wide
section
variable {P : Program} {Q : Exit → Act → World → Prop} {n l : Nat}
theorem rowsIn_round {row : String} {args : Array Value} {w : World} {R : Value → World → Prop} (h : Rows P row args w R) : RowsIn (Fence.wide.inRound l) n P row args w R :=
  fun c cs _ => let ⟨v, w', r, s⟩ := h c cs; ⟨v, w', r, stepsIn_wide.2 s⟩
theorem upon_round {o : Oper} {a : Act} {K : Act → World → Prop} {r : Result Next} (h : o.upon P a K Q r) : o.uponIn (Fence.wide.inRound l) n P a K Q r := by
  cases r with
  | ok x w' =>
    cases x with
    | value v => exact h
    | skip => exact h
    | defer d => exact h
    | enter f args => exact ⟨fun h2 => (by cases h2), (callsIn_wide.2 h : CallsIn Fence.wide (n - 1) P f args w' _).inRound l⟩
    | row row args => exact ⟨fun h2 => (by cases h2), rowsIn_round h⟩
    | round => exact h.elim
    | _ => exact h.elim
  | halt x w' => cases x <;> exact h
theorem wpOp_round {ops : Array Oper} (hl : ¬ LetsOut Q) (hd : ∀ (i : Nat) (o : Oper), ops[i]? = some o → ∀ c, o.op ≠ .defer c) {i : Nat} {K : Act → World → Prop} {a : Act} {w : World} (h : wpOp P ops Q i K a w) : wpOpIn (Fence.wide.inRound l) n P ops Q i K a w := by
  unfold wpOp at h
  unfold wpOpIn
  cases ho : ops[i]? with
  | none => rw [ho] at h; exact h
  | some o =>
    rw [ho] at h
    dsimp only at h ⊢
    split at h
    · rename_i hw
      rw [if_pos hw]
      rcases h with h | h
      · refine ⟨fun _ _ => trivial, ?_⟩
        rw [Oper.semAt_eq _ _ _ (hd i o ho)]
        exact upon_round h
      · exact absurd h.2 hl
    · rename_i hw
      rw [if_neg hw]
      exact ⟨fun _ _ => trivial, h⟩
theorem wpAny_round {ops : Array Oper} (hl : ¬ LetsOut Q) (hd : ∀ (i : Nat) (o : Oper), ops[i]? = some o → ∀ c, o.op ≠ .defer c) {md : Region.Mode} : ∀ (f : Nat) (L : Array Bool) (a : Act) (w : World), wpAny P md ops Q f L a w → wpAnyIn (Fence.wide.inRound l) n P md ops Q f L a w
  | 0, L, a, w, h => h
  | f + 1, L, a, w, h => ⟨h.1, fun i hi => wpOp_round hl hd (wpOp_mono (fun a' w' h' => wpAny_round hl hd f _ a' w' h') (h.2 i hi))⟩
end
def noDefer (ops : Array Oper) : Bool := ops.all fun o => match o.op with | .defer _ => false | _ => true
theorem noDefer_spec {ops : Array Oper} (h : noDefer ops = true) : ∀ (i : Nat) (o : Oper), ops[i]? = some o → ∀ c, o.op ≠ .defer c := by
  intro i o ho c hc
  unfold noDefer at h
  rw [Array.all_eq_true] at h
  obtain ⟨hi, he⟩ := Array.getElem?_eq_some_iff.1 ho
  have := h i hi
  rw [he, hc] at this
  cases this
section
variable {P : Program} {tt : TT} {ct : CTab} {pv : Nat → Prop} {w0 : World} {N : Nat}
theorem draw_round (hTT : TTok P tt) (hCT : CTok P ct) (hmix : P.follows .mixedOrders = true) {id : Nat} {ops : Array Oper} {env : Env} {mem : Mem} {nx : Nat} {K : KE} {a : Act} {W : World} (n l : Nat) (hnd : noDefer ops = true) (h : DrawVC tt ct N ops env mem nx K) (hE : ERel ds env a N) (hM : MRel pv w0 mem W) :
    (Code.region id ops true).wpIn (Fence.wide.inRound l) n P (QK ds pv w0 N K) a W := by
  obtain ⟨plan, flo, ks, hB, h⟩ := h
  simp only [drawB, Bool.and_eq_true, decide_eq_true_eq] at hB
  obtain ⟨⟨⟨hsel, hflo⟩, hlen⟩, hX⟩ := hB
  have hex := items_ex flo plan
  have hearly := items_early flo plan
  have H := plan_ok (P := P) (pv := pv) (w0 := w0) (N := N) (K := K .normal) (F := keepM ks mem) (Q := QK ds pv w0 N K) hTT hCT hsel hflo (fun c a w h => h.no_panic) (fun env mem nx a W hK hE hM => ⟨.normal, env, mem, nx, rfl, hE, hM, hK⟩)
    _ (plan.map (itemOf flo)) rfl (delAll env ops flo) mem nx (Array.replicate ops.size false) a (by simp) (fun p hp => by
      obtain ⟨⟨b, i⟩, hm, rfl⟩ := List.mem_map.1 hp
      cases b
      · simp only [itemOf]
        by_cases h : i ∈ flo
        · rw [if_pos h]; exact h
        · rw [if_neg h]; exact h
      · exact plan_tk plan _ _ i hX hm (by simp)
      · exact plan_tk plan _ _ i hX hm (by simp)) (by rw [hex]; exact hX) ⟨by rw [hearly]; exact fun _ h => (by cases h), by rw [hearly]; exact fun _ h => (by cases h)⟩ (keepM_sup ks mem) (hE.less fun d v h => (delAll_get flo env d v h).1)
    (fun i hi b _ o d ho hd => by
      cases hg : getA (delAll env ops flo) d with
      | none => rfl
      | some v => exact absurd (by rw [ho]; exact hd) ((delAll_get flo env d v hg).2 i hi)) (by rw [hex]; exact h)
  rw [hearly, items_cost, hlen] at H
  refine wpIn_region_any hmix (wpAny_round ?_ (noDefer_spec hnd) _ _ _ _ (wpAny_of_E _ _ _ _ _ H ⟨hM.drew, by rw [hearly]; exact fun _ h => (by cases h)⟩))
  rintro ⟨a, w, ex, env, mem, nx, he, -⟩
  cases ex <;> cases he
end
theorem ERel.of_all {env : Env} {a : Act} {N : Nat} (h1 : a.tmps.size = N) (h2 : a.defers = ds) (h : ∀ p ∈ env, p.2.is (a.tmps.getD p.1 undef)) : ERel ds env a N :=
  ⟨h1, h2, fun d v hg => h (d, v) (by
    clear h
    induction env with
    | nil => cases hg
    | cons p r ih =>
      obtain ⟨k, x⟩ := p
      simp only [getA] at hg
      split at hg
      · rename_i e; injection hg with hg; subst e; subst hg; exact List.mem_cons_self ..
      · exact List.mem_cons_of_mem _ (ih hg))⟩
/-- All the blocks that are not turned, as they lie. -/
def fixL (W : World) (ok : Nat → Bool) : Nat → Mem
  | 0 => []
  | k + 1 => match W.heap[k]? with
    | some o => if ok k then (k + 1000, .fix k o) :: fixL W ok k else fixL W ok k
    | none => fixL W ok k
theorem fixL_of {W : World} {ok : Nat → Bool} : ∀ {n l : Nat} {e : ME}, getA (fixL W ok n) l = some e → ∃ k o, l = k + 1000 ∧ k < n ∧ ok k = true ∧ W.heap[k]? = some o ∧ e = .fix k o
  | 0, l, e, h => by cases h
  | n + 1, l, e, h => by
    simp only [fixL] at h
    split at h
    · rename_i o ho
      split at h
      · rename_i hk
        simp only [getA] at h
        split at h
        · rename_i e1; injection h with h; exact ⟨n, o, e1.symm, Nat.lt_succ_self _, hk, ho, h.symm⟩
        · obtain ⟨k, o, h1, h2, h3⟩ := fixL_of h; exact ⟨k, o, h1, Nat.lt_succ_of_lt h2, h3⟩
      · obtain ⟨k, o, h1, h2, h3⟩ := fixL_of h; exact ⟨k, o, h1, Nat.lt_succ_of_lt h2, h3⟩
    · obtain ⟨k, o, h1, h2, h3⟩ := fixL_of h; exact ⟨k, o, h1, Nat.lt_succ_of_lt h2, h3⟩
theorem fixL_at {W : World} {ok : Nat → Bool} {k : Nat} {o : Obj} (hk : ok k = true) (ho : W.heap[k]? = some o) : ∀ {n : Nat}, k < n → getA (fixL W ok n) (k + 1000) = some (.fix k o)
  | 0, h => absurd h (Nat.not_lt_zero _)
  | n + 1, h => by
    simp only [fixL]
    rcases Nat.lt_succ_iff_lt_or_eq.1 h with h2 | rfl
    · have ih := fixL_at hk ho h2
      split
      · split
        · simp only [getA]; rw [if_neg (by omega)]; exact ih
        · exact ih
      · exact ih
    · rw [ho]; simp [hk, getA]
theorem keepM_fixL {W : World} {ok : Nat → Bool} {ks : List Nat} (hk : ∀ k ∈ ks, k < 1000) : ∀ n : Nat, keepM ks (fixL W ok n) = []
  | 0 => rfl
  | n + 1 => by
    have ih := keepM_fixL hk (W := W) (ok := ok) n
    simp only [fixL]
    split
    · split
      · simp only [keepM]
        rw [if_neg, ih]
        intro h
        rw [List.any_eq_true] at h
        obtain ⟨x, h1, h2⟩ := h
        have := hk x h1
        simp at h2
        omega
      · exact ih
    · exact ih
/-- The same memory, seen otherwise. -/
theorem MRel.view {pv : Nat → Prop} {w0 W : World} {m m2 : Mem} (h : MRel pv w0 m W) (hv : ∀ l e2, getA m2 l = some e2 → ∃ e, getA m l = some e ∧ (MEok pv w0 W e → MEok pv w0 W e2) ∧ e2.blk = e.blk ∧ (e2.mine = true → e.mine = true)) : MRel pv w0 m2 W where
  below := h.below
  ok := fun l e he => by obtain ⟨d, h1, h2, -⟩ := hv l e he; exact h2 (h.ok l d h1)
  sep := fun l e l' e' he he' hne hm k hb hb' => by
    obtain ⟨d, h1, h2, h3, h4⟩ := hv l e he
    obtain ⟨d', h1', h2', h3', h4'⟩ := hv l' e' he'
    exact h.sep l d l' d' h1 h1' hne (h4 hm) k (h3 ▸ hb) (h3' ▸ hb')
theorem MEok.own_ro {pv : Nat → Prop} {w0 W : World} {g c : Nat} {t : TypeId} {cs : Cells} (hl : cs.len ≤ 9223372036854775807) (hc : cs.len ≤ c) (h : MEok pv w0 W (.own g t cs)) : MEok pv w0 W (.ro (some ⟨g, 0, none⟩) c cs) := by
  obtain ⟨ho, hb, h3⟩ := h
  refine ⟨⟨by rw [Cells.vals_length]; exact hl, fun i x hx => ⟨g, 0, rfl, ?_⟩⟩, hc, fun k hk => ?_⟩
  · rw [ho.cell]
    simpa using hx
  · injection hk with hk; subst hk; exact ⟨ho.lt, .inl hb⟩
theorem getA_app {α : Type} (a b : List (Nat × α)) (k : Nat) : getA (a ++ b) k = match getA a k with | some v => some v | none => getA b k := by
  induction a with
  | nil => rfl
  | cons p r ih =>
    obtain ⟨d, v⟩ := p
    simp only [List.cons_append, getA]
    split
    · rfl
    · exact ih
theorem MRel.fixed {pv : Nat → Prop} {w0 W : World} {m : Mem} (h : MRel pv w0 m W) (hk : ∀ l e, getA m l = some e → l < 1000) (own : List Nat) (ho : ∀ l e k, getA m l = some e → e.mine = true → e.blk = some k → k ∈ own) :
    MRel pv w0 (m ++ fixL W (fun k => decide (w0.heap.size ≤ k) && !(own.contains k)) W.heap.size) W where
  below := h.below
  ok := fun l e he => by
    rw [getA_app] at he
    split at he
    · rename_i v hv; injection he with he; subst he; exact h.ok l _ hv
    · obtain ⟨k, o, h1, h2, h3, h4, rfl⟩ := fixL_of he
      simp at h3
      exact ⟨h4, h3.1⟩
  sep := fun l e l' e' he he' hne hm k hb hb' => by
    rw [getA_app] at he he'
    split at he
    · rename_i v hv
      injection he with he; subst he
      split at he'
      · rename_i v' hv'
        injection he' with he'; subst he'
        exact h.sep l _ l' _ hv hv' hne hm k hb hb'
      · obtain ⟨k', o, h1, h2, h3, h4, rfl⟩ := fixL_of he'
        injection hb' with hb'
        simp at h3
        subst hb'
        exact h3.2 (ho l _ _ hv hm hb)
    · obtain ⟨k', o, h1, h2, h3, h4, rfl⟩ := fixL_of he
      cases hm
/-- What lay there, lies there. -/
theorem fixed_same {pv : Nat → Prop} {w0 W W' : World} {own : List Nat} {m' : Mem} (hb : Below w0.heap.size w0 W) (h : MRel pv w0 m' W') (hf : ∀ k, 1000 ≤ k → getA m' k = getA (fixL W (fun k => decide (w0.heap.size ≤ k) && !(own.contains k)) W.heap.size) k) {k : Nat} (hk : k < W.heap.size) (hn : k ∉ own) : W'.heap[k]? = W.heap[k]? := by
  by_cases hlt : k < w0.heap.size
  · rw [h.below.block k hlt, hb.block k hlt]
  · obtain ⟨o, ho⟩ : ∃ o, W.heap[k]? = some o := ⟨_, Array.getElem?_eq_getElem hk⟩
    have h2 := fixL_at (W := W) (ok := fun k => decide (w0.heap.size ≤ k) && !(own.contains k)) (k := k) (o := o) (by simp [hn]; omega) ho hk
    rw [← hf (k + 1000) (by omega)] at h2
    have h3 := h.ok _ _ h2
    rw [ho]; exact h3.1
/-- A turn of a block that holds no cells. -/
theorem MRel.grownBy {pv : Nat → Prop} {w0 W W' : World} {m : Mem} {row : Option Nat} (h : MRel pv w0 m W) (hm : ∀ l g o, getA m l ≠ some (.fix g o)) (hg : W.grownBy W' row) (hr : ∀ r, row = some r → w0.heap.size ≤ r ∧ ∃ o : Obj, W.heap[r]? = some o ∧ o.isCells = false) : MRel pv w0 m W' where
  below := h.below.trans ⟨hg.os, hg.tape, hg.output, hg.size, fun k hk => hg.block k (Nat.lt_of_lt_of_le hk h.size) fun e2 => by have := (hr k e2.symm).1; omega⟩
  ok := fun l e he => by
    have hok := h.ok l e he
    cases e with
    | fix g o => exact absurd he (hm l g o)
    | ro A c cs =>
      refine ⟨⟨hok.1.1, fun i x hx => ?_⟩, hok.2.1, fun k hk => ⟨Nat.lt_of_lt_of_le (hok.2.2 k hk).1 hg.size, (hok.2.2 k hk).2⟩⟩
      obtain ⟨b, o, rfl, hc⟩ := hok.1.2 i x hx
      exact ⟨b, o, rfl, cell_kept hc hg (fun r e => (hr r e).2)⟩
    | own g t cs =>
      refine hok.keep hg.size fun k hk => hg.block k (hok.blk_lt k hk) fun e2 => ?_
      obtain ⟨o, ho, hc⟩ := (hr k e2.symm).2
      injection hk with hk; subst hk
      rw [hok.1] at ho; injection ho with ho; rw [← ho] at hc; cases hc
    | row v e cs =>
      refine hok.keep hg.size fun k hk => hg.block k (hok.blk_lt k hk) fun e2 => ?_
      obtain ⟨o, ho, hc⟩ := (hr k e2.symm).2
      rcases hok.1.2 with ⟨rfl, _⟩ | ⟨g, cap, cur, rfl, _, hgg, _⟩
      · cases hk
      · injection hk with hk
        have hk : g = k := hk
        subst hk
        rw [hgg] at ho; injection ho with ho; rw [← ho] at hc; cases hc
  sep := h.sep
end Go.Proofs.Ytjleiifcigojoaa
