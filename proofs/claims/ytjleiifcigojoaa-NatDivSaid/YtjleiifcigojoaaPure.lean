/- What is owed for each operation, told without a world: operations that make and write nothing are told rightly. For any program. -/
import Derived.Test.YtjleiifcigojoaaVcA
namespace Go.Proofs.Ytjleiifcigojoaa
open Go Go.RowKit
set_option linter.unusedVariables false
set_option linter.unusedSimpArgs false

section
variable {P : Program} {W : World} {t : TypeId} {i : TI}
theorem AV.is_good {v : AV} {V : Value} (h : v.is V) (hg : v.good = true) : V = v.conc := by
  rcases h with rfl | h
  · cases hg
  · exact h
theorem TIok.rsize (h : TIok P t i) (W : World) : (sizeOf t).run P W = .ok i.size W := by
  obtain ⟨x, hx, he⟩ := Option.map_eq_some_iff.1 h.info
  simp only [Prod.mk.injEq] at he
  simp [sizeOf, typeInfo, run_program, hx, he.2.1]
theorem TIok.info_size (h : TIok P t i) : (P.info? t).map (·.size) = some i.size := by
  obtain ⟨x, hx, he⟩ := Option.map_eq_some_iff.1 h.info
  simp only [Prod.mk.injEq] at he
  simp [hx, he.2.1]
theorem TIok.rzero (h : TIok P t i) (W : World) : (zeroValue t).run P W = .ok i.zeroV W := by
  obtain ⟨x, hx, he⟩ := Option.map_eq_some_iff.1 h.info
  simp only [Prod.mk.injEq] at he
  simp [zeroValue, typeInfo, run_program, hx, he.1]
theorem TIok.under (h : TIok P t i) : ∃ d, P.underlying t = some d ∧ (match d with | .struct _ | .array _ _ => true | _ => false) = i.dsc.agg := by
  have hd := h.dsc
  cases hi : i.dsc <;> rw [hi] at hd <;> simp only [TDsc.ok] at hd
  case struct l => obtain ⟨fs, h1, _, _⟩ := hd; exact ⟨_, h1, rfl⟩
  case other => obtain ⟨d, h1, h2⟩ := hd; exact ⟨d, h1, h2⟩
  all_goals exact ⟨_, hd, rfl⟩
theorem TIok.runder (h : TIok P t i) (W : World) : ∃ d, (underlying t).run P W = .ok d W ∧ (match d with | .struct _ | .array _ _ => true | _ => false) = i.dsc.agg := by
  obtain ⟨d, h1, h2⟩ := h.under
  exact ⟨d, run_underlying h1 W, h2⟩
theorem TIok.risAgg (h : TIok P t i) (W : World) : (isAgg t).run P W = .ok i.dsc.agg W := by
  obtain ⟨d, h1, h2⟩ := h.under
  unfold isAgg
  simp only [Sem.run_bind, run_underlying h1, Result.andThen_ok]
  cases d <;> simp_all
theorem TIok.zcells (h : TIok P t i) : i.zeroV.cells = i.zero.vals.toArray := by
  unfold TI.zeroV
  by_cases ha : i.dsc.agg = true
  · rw [if_pos ha]; rfl
  · have h1 := h.one (by simpa using ha)
    have h2 := h.len
    rw [h1, ← Cells.vals_length] at h2
    obtain ⟨v, hv⟩ := List.length_eq_one_iff.1 h2
    have h3 := Cells.ones_ok i.zero h.ones v (by rw [hv]; simp)
    rw [if_neg ha, hv, List.headD_cons]
    clear hv h2
    cases v <;> simp only [Value.oneCell', Bool.false_eq_true] at h3 <;> rfl
end

/-! ### Parts -/
theorem part_run {P : Program} {W : World} {t : TypeId} {i : TI} (h : TIok P t i) {cs : Cells} {off : Nat} {K : AV → Prop} (hp : pickC i cs off K) :
    ∃ v, v.good = true ∧ K v ∧ (part t cs.vals.toArray off).run P W = .ok v.conc W := by
  unfold pickC at hp
  unfold part
  simp only [Sem.run_bind, h.risAgg, Result.andThen_ok]
  by_cases ha : i.dsc.agg = true
  · rw [if_pos ha] at hp
    refine ⟨_, ?_, hp.2, ?_⟩
    · cases cs <;> rfl
    · simp only [ha, if_true, Sem.run_bind, h.rsize, Result.andThen_ok, Sem.run_pure]
      rw [Cells.sub_eq, Cells.agg_conc, Cells.vals_part]
      congr 2
      apply Array.ext'
      simp [List.drop_take]
  · rw [if_neg ha] at hp
    obtain ⟨h1, h2, h3⟩ := hp
    have h4 := Cells.vals_get cs off h1
    refine ⟨_, h2, h3, ?_⟩
    rw [← AV.is_good h4.1 h2]
    have h5 := h4.2
    rw [← List.getElem?_toArray] at h5
    simp only [ha, Bool.false_eq_true, if_false, h5, Sem.run_pure]
theorem var_run {P : Program} {W : World} {t : TypeId} {i : TI} (h : TIok P t i) {cs : Cells} {b o off : Nat} (hc : ∀ j v, cs.vals[j]? = some v → W.cell? ⟨b, o + j, none⟩ = some v) {K : AV → Prop} (hp : pickC i cs off K) :
    ∃ v, v.good = true ∧ K v ∧ (loadVar t ⟨b, o + off, none⟩).run P W = .ok v.conc W := by
  unfold pickC at hp
  by_cases ha : i.dsc.agg = true
  · rw [if_pos ha] at hp
    refine ⟨_, ?_, hp.2, ?_⟩
    · cases cs <;> rfl
    · obtain ⟨d, hd, hda⟩ := h.under
      rw [Cells.sub_eq, Cells.agg_conc, Cells.vals_part]
      have hl : ((cs.vals.drop off).take i.size).length = i.size := by
        rw [List.length_take, List.length_drop, Cells.vals_length]; omega
      refine run_loadVar_mid W b (o + off) t _ d (fun j v hv => ?_) hd (by rw [ha] at hda; exact hda) (by rw [h.info_size, hl])
      rw [Nat.add_assoc]
      refine hc _ v ?_
      rw [List.getElem?_take] at hv
      split at hv
      · rwa [List.getElem?_drop] at hv
      · cases hv
  · rw [if_neg ha] at hp
    obtain ⟨h1, h2, h3⟩ := hp
    have h4 := Cells.vals_get cs off h1
    refine ⟨_, h2, h3, ?_⟩
    rw [← AV.is_good h4.1 h2]
    have h5 := hc off _ h4.2
    unfold loadVar
    simp only [Sem.run_bind, h.risAgg, Result.andThen_ok, ha]
    simp [load, Sem.run, h5]
/-- A slice that is read: what it holds. -/
theorem rd_run {pv : Nat → Prop} {w0 : World} {mem : Mem} {z : Cells} {v : AV} {K : Cells → Prop} (h : rdVC mem z v K) :
    ∃ cs, K cs ∧ v.good = true ∧ ∀ W, MRel pv w0 mem W → ∃ A c, v.conc = .slice A cs.len c ∧ cs.len ≤ c ∧ Sl id W A cs.vals ∧ (∀ k, blkA A = some k → k < W.heap.size) := by
  cases v with
  | nils =>
    refine ⟨_, h, rfl, fun W hM => ⟨none, 0, ?_, ?_, ?_, fun k hk => by cases hk⟩⟩
    · have : (z.part 0 0).len = 0 := by rw [Cells.part_len]; omega
      rw [this]; rfl
    · rw [Cells.part_len]; omega
    · have : (z.part 0 0).vals = [] := by rw [Cells.vals_part]; simp
      rw [this]; exact Sl.nil W none
  | ros l A n c =>
    simp only [rdVC] at h
    cases hg : getA mem l with
    | none => simp [hg] at h
    | some e =>
      rw [hg] at h
      cases e with
      | ro A' c' cs =>
        obtain ⟨⟨rfl, rfl, rfl⟩, hK⟩ := h
        refine ⟨cs, hK, rfl, fun W hM => ?_⟩
        obtain ⟨h1, h2, h3⟩ := hM.ok _ _ hg
        exact ⟨_, _, rfl, h2, h1, fun k hk => (h3 k hk).1⟩
      | _ => exact h.elim
  | slc l g off len cap =>
    simp only [rdVC] at h
    cases hg : getA mem l with
    | none => simp [hg] at h
    | some e =>
      rw [hg] at h
      cases e with
      | own g' t cs =>
        obtain ⟨⟨rfl, h1, h2, h4⟩, hK⟩ := h
        refine ⟨_, hK, rfl, fun W hM => ?_⟩
        obtain ⟨ho, hb, h3⟩ := hM.ok _ _ hg
        have hl : (cs.part off len).len = len := by rw [Cells.part_len]; omega
        refine ⟨some ⟨g', off, none⟩, cap, by rw [hl]; rfl, by omega, ⟨by rw [Cells.vals_length, hl]; omega, fun i x hx => ⟨g', off, rfl, ?_⟩⟩, fun k hk => ?_⟩
        · rw [ho.cell]
          rw [Cells.vals_part, List.getElem?_take] at hx
          split at hx
          · rw [List.getElem?_drop] at hx; simpa using hx
          · cases hx
        · injection hk with hk; subst hk; exact ho.lt
      | _ => exact h.elim
  | grow l v n =>
    simp only [rdVC] at h
    cases hg : getA mem l with
    | none => simp [hg] at h
    | some e =>
      rw [hg] at h
      cases e with
      | row v' e cs =>
        obtain ⟨⟨rfl, rfl⟩, hK⟩ := h
        refine ⟨cs, hK, rfl, fun W hM => ?_⟩
        obtain ⟨ho, h3⟩ := hM.ok _ _ hg
        have ho' : W.ownsRow w0.heap.size e 1 v' cs.len (cs.vals.map id) := by rw [List.map_id]; exact ho
        obtain ⟨A, c, h1, h2, h4, h5⟩ := owns_sl ho'
        refine ⟨A, c, h1, h2, h5, fun k hk => ?_⟩
        refine MEok.blk_lt (pv := pv) (w0 := w0) (e := .row v' e cs) ⟨ho, h3⟩ k ?_
        subst h1
        cases A with
        | none => cases hk
        | some a => exact hk
      | _ => exact h.elim
  | _ => exact h.elim
theorem fold_set (arr : Array Value) (vs : List Value) (off : Nat) (h : off + vs.length ≤ arr.size) :
    (vs.toArray.zipIdx.foldl (fun cs (c, j) => cs.setIfInBounds (off + j) c) arr) = (arr.toList.take off ++ vs ++ arr.toList.drop (off + vs.length)).toArray := by
  have key : ∀ (vs : List Value) (k : Nat) (arr : Array Value), off + k + vs.length ≤ arr.size →
      ((vs.zipIdx k).foldl (fun cs (p : Value × Nat) => cs.setIfInBounds (off + p.2) p.1) arr) = (arr.toList.take (off + k) ++ vs ++ arr.toList.drop (off + k + vs.length)).toArray := by
    intro vs
    induction vs with
    | nil => intro k arr h; simp
    | cons v r ih =>
      intro k arr h
      simp only [List.length_cons] at h
      rw [List.zipIdx_cons, List.foldl_cons, ih (k + 1) _ (by simp; omega)]
      apply Array.ext'
      simp only [Array.toList_setIfInBounds]
      apply List.ext_getElem?
      intro j
      have hal : arr.toList.length = arr.size := by simp
      simp only [List.getElem?_append, List.getElem?_take, List.getElem?_drop, List.length_take, List.length_append, List.length_cons, List.length_set, List.getElem?_set, hal]
      rw [Nat.min_eq_left (by omega), Nat.min_eq_left (by omega)]
      by_cases h1 : j < off + k
      · simp only [h1, show j < off + (k + 1) by omega, show j < off + (k + 1) + r.length by omega, show j < off + k + (r.length + 1) by omega, if_true, show off + k ≠ j by omega, if_false]
      · by_cases h2 : j = off + k
        · subst h2
          simp only [Nat.lt_irrefl, if_false, show off + k < off + k + (r.length + 1) by omega, show off + k < off + (k + 1) + r.length by omega, show off + k < off + (k + 1) by omega, show off + k < arr.size by omega, if_true, Nat.sub_self, List.getElem?_cons_zero]
        · by_cases h3 : j < off + (k + 1) + r.length
          · simp only [h1, h3, show ¬ j < off + (k + 1) by omega, show j < off + k + (r.length + 1) by omega, if_true, if_false]
            rw [show j - (off + k) = (j - (off + (k + 1))) + 1 by omega, List.getElem?_cons_succ]
          · simp only [h1, h3, show ¬ j < off + k + (r.length + 1) by omega, if_false]
            rw [show off + (k + 1) + r.length + (j - (off + (k + 1) + r.length)) = j by omega, show off + k + (r.length + 1) + (j - (off + k + (r.length + 1))) = j by omega]
            simp [show off + k ≠ j by omega]
  have := key vs 0 arr (by simpa using h)
  rw [← Array.foldl_toList]
  simpa using this
theorem fill_ok {place : Nat → Option (Nat × Nat)} : ∀ (ps : List (Nat × AV)) (cs : Cells) (K : Cells → Prop) (vs : List (Nat × Value)), fillVC place cs ps K →
    vs.length = ps.length → (∀ (j : Nat) (p : Nat × AV) (q : Nat × Value), ps[j]? = some p → vs[j]? = some q → q.1 = p.1 ∧ p.2.is q.2) → cs.ones = true → ∃ cs', K cs' ∧ Instr.fill place cs.vals.toArray vs = some cs'.vals.toArray ∧ cs'.len = cs.len
  | [], cs, K, vs, h, hl, _, _ => by
    obtain rfl := List.eq_nil_of_length_eq_zero hl
    exact ⟨cs, h, rfl, rfl⟩
  | (i, v) :: r, cs, K, [], h, hl, _, _ => by simp at hl
  | (i, v) :: r, cs, K, (i', V) :: vr, h, hl, hv, h1 => by
    obtain ⟨hi, hV⟩ := hv 0 (i, v) (i', V) rfl rfl
    dsimp only at hi hV
    subst hi
    unfold fillVC at h
    unfold Instr.fill
    cases hp : place i' with
    | none => simp [hp] at h
    | some q =>
      obtain ⟨off, size⟩ := q
      simp only [hp] at h ⊢
      by_cases hs : size = 1
      · rw [if_pos hs] at h
        obtain ⟨ho, h⟩ := h
        cases hset : cs.set off v with
        | none => simp [hset] at h
        | some c1 =>
          simp only [hset] at h
          obtain ⟨e1, e2, e3, e4⟩ := Cells.set_ok cs off v c1 hset
          have hVc : V = v.conc := by
            rcases hV with rfl | hV
            · exact absurd rfl e4
            · exact hV
          have hVcells : V.cells = #[V] := by rw [hVc]; revert e3; cases v.conc <;> simp [Value.oneCell', Value.cells]
          have h1' := Cells.set_ones cs off v c1 hset h1
          obtain ⟨c2, hK, hf, hlen⟩ := fill_ok r c1 K vr h (by simpa using hl) (fun j p q hp hq => hv (j + 1) p q hp hq) h1'
          refine ⟨c2, hK, ?_, by omega⟩
          rw [hVcells, hs]
          have : ¬ (decide ((#[V] : Array Value).size ≠ 1) || decide (off + (#[V] : Array Value).size > cs.vals.toArray.size)) = true := by
            have := Cells.vals_length cs
            simp; omega
          rw [if_neg this]
          rw [← hf]
          congr 1
          rw [e1, hVc]
          simp
      · rw [if_neg hs] at h
        cases hc : v.cells with
        | none => simp [hc] at h
        | some d =>
          simp only [hc] at h
          obtain ⟨⟨hd, ho⟩, h⟩ := h
          cases hu : cs.upd off d with
          | none => simp [hu] at h
          | some c1 =>
            simp only [hu] at h
            obtain ⟨e1, e2⟩ := Cells.upd_ok cs off d c1 hu (by omega)
            have hVcells := AV.cells_ok v d hc V hV
            have h1' := Cells.upd_ones cs off d c1 hu h1
            obtain ⟨c2, hK, hf, hlen⟩ := fill_ok r c1 K vr h (by simpa using hl) (fun j p q hp hq => hv (j + 1) p q hp hq) h1'
            refine ⟨c2, hK, ?_, by omega⟩
            rw [hVcells]
            have hdl := Cells.vals_length d
            have hcl := Cells.vals_length cs
            have : ¬ (decide (d.vals.toArray.size ≠ size) || decide (off + d.vals.toArray.size > cs.vals.toArray.size)) = true := by
              simp; omega
            rw [if_neg this, ← hf, e1]
            congr 1
            exact fold_set cs.vals.toArray d.vals off (by simp; omega)
end Go.Proofs.Ytjleiifcigojoaa
