/- The engine, part 2: what is owed for code, told without a world. For any program. -/
import Derived.Test.YtlcaobnojbkmbaaEng1
import Derived.ArgAppend
import Derived.Deep.AppendSrc
import Derived.Lib.SlBytesConst
/- What is owed for each operation, told without a world: operations that make and write nothing are told rightly. For any program. -/
namespace Go.Proofs.Ytlcaobnojbkmbaa
open Go Go.RowKit
set_option linter.unusedVariables false
set_option linter.unusedSimpArgs false

section
variable {P : Program} {W : World} {t : TypeId} {i : TI}
theorem AV.is_good {v : AV} {V : Value} (h : v.is V) (hg : v.good = true) : V = v.conc := by
  rcases h with rfl | h
  · cases hg
  · exact h
theorem TIok.rsize (h : TIok P t i) (W : World) : (sizeOf t).run P W = .ok i.size W := by
  obtain ⟨x, hx, he⟩ := Option.map_eq_some_iff.1 h.info
  simp only [Prod.mk.injEq] at he
  simp [sizeOf, typeInfo, run_program, hx, he.2.1]
theorem TIok.info_size (h : TIok P t i) : (P.info? t).map (·.size) = some i.size := by
  obtain ⟨x, hx, he⟩ := Option.map_eq_some_iff.1 h.info
  simp only [Prod.mk.injEq] at he
  simp [hx, he.2.1]
theorem TIok.rzero (h : TIok P t i) (W : World) : (zeroValue t).run P W = .ok i.zeroV W := by
  obtain ⟨x, hx, he⟩ := Option.map_eq_some_iff.1 h.info
  simp only [Prod.mk.injEq] at he
  simp [zeroValue, typeInfo, run_program, hx, he.1]
theorem TIok.under (h : TIok P t i) : ∃ d, P.underlying t = some d ∧ (match d with | .struct _ | .array _ _ => true | _ => false) = i.dsc.agg := by
  have hd := h.dsc
  cases hi : i.dsc <;> rw [hi] at hd <;> simp only [TDsc.ok] at hd
  case struct l => obtain ⟨fs, h1, _, _⟩ := hd; exact ⟨_, h1, rfl⟩
  case other => obtain ⟨d, h1, h2⟩ := hd; exact ⟨d, h1, h2⟩
  case ptrm e ms => exact ⟨_, hd.1, rfl⟩
  all_goals exact ⟨_, hd, rfl⟩
theorem TIok.runder (h : TIok P t i) (W : World) : ∃ d, (underlying t).run P W = .ok d W ∧ (match d with | .struct _ | .array _ _ => true | _ => false) = i.dsc.agg := by
  obtain ⟨d, h1, h2⟩ := h.under
  exact ⟨d, run_underlying h1 W, h2⟩
theorem TIok.risAgg (h : TIok P t i) (W : World) : (isAgg t).run P W = .ok i.dsc.agg W := by
  obtain ⟨d, h1, h2⟩ := h.under
  unfold isAgg
  simp only [Sem.run_bind, run_underlying h1, Result.andThen_ok]
  cases d <;> simp_all
theorem TIok.zcells (h : TIok P t i) : i.zeroV.cells = i.zero.vals.toArray := by
  unfold TI.zeroV
  by_cases ha : i.dsc.agg = true
  · rw [if_pos ha]; rfl
  · have h1 := h.one (by simpa using ha)
    have h2 := h.len
    rw [h1, ← Cells.vals_length] at h2
    obtain ⟨v, hv⟩ := List.length_eq_one_iff.1 h2
    have h3 := Cells.ones_ok i.zero h.ones v (by rw [hv]; simp)
    rw [if_neg ha, hv, List.headD_cons]
    clear hv h2
    cases v <;> simp only [Value.oneCell', Bool.false_eq_true] at h3 <;> rfl
end

/-! ### Parts -/
theorem part_run {P : Program} {W : World} {t : TypeId} {i : TI} (h : TIok P t i) {cs : Cells} {off : Nat} {K : AV → Prop} (hp : pickC i cs off K) :
    ∃ v, v.good = true ∧ K v ∧ (part t cs.vals.toArray off).run P W = .ok v.conc W := by
  unfold pickC at hp
  unfold part
  simp only [Sem.run_bind, h.risAgg, Result.andThen_ok]
  by_cases ha : i.dsc.agg = true
  · rw [if_pos ha] at hp
    refine ⟨_, ?_, hp.2, ?_⟩
    · exact Cells.sub_good cs _ _
    · simp only [ha, if_true, Sem.run_bind, h.rsize, Result.andThen_ok, Sem.run_pure]
      rw [Cells.sub_eq, Cells.agg_conc, Cells.vals_part]
      congr 2
      apply Array.ext'
      simp [List.drop_take]
  · rw [if_neg ha] at hp
    obtain ⟨h1, h2, h3⟩ := hp
    have h4 := Cells.vals_get cs off h1
    refine ⟨_, h2, h3, ?_⟩
    rw [← AV.is_good h4.1 h2]
    have h5 := h4.2
    rw [← List.getElem?_toArray] at h5
    simp only [ha, Bool.false_eq_true, if_false, h5, Sem.run_pure]
theorem var_run {P : Program} {W : World} {t : TypeId} {i : TI} (h : TIok P t i) {cs : Cells} {b o off : Nat} (hc : ∀ j v, cs.vals[j]? = some v → W.cell? ⟨b, o + j, none⟩ = some v) {K : AV → Prop} (hp : pickC i cs off K) :
    ∃ v, v.good = true ∧ K v ∧ (loadVar t ⟨b, o + off, none⟩).run P W = .ok v.conc W := by
  unfold pickC at hp
  by_cases ha : i.dsc.agg = true
  · rw [if_pos ha] at hp
    refine ⟨_, ?_, hp.2, ?_⟩
    · exact Cells.sub_good cs _ _
    · obtain ⟨d, hd, hda⟩ := h.under
      rw [Cells.sub_eq, Cells.agg_conc, Cells.vals_part]
      have hl : ((cs.vals.drop off).take i.size).length = i.size := by
        rw [List.length_take, List.length_drop, Cells.vals_length]; omega
      refine run_loadVar_mid W b (o + off) t _ d (fun j v hv => ?_) hd (by rw [ha] at hda; exact hda) (by rw [h.info_size, hl])
      rw [Nat.add_assoc]
      refine hc _ v ?_
      rw [List.getElem?_take] at hv
      split at hv
      · rwa [List.getElem?_drop] at hv
      · cases hv
  · rw [if_neg ha] at hp
    obtain ⟨h1, h2, h3⟩ := hp
    have h4 := Cells.vals_get cs off h1
    refine ⟨_, h2, h3, ?_⟩
    rw [← AV.is_good h4.1 h2]
    have h5 := hc off _ h4.2
    unfold loadVar
    simp only [Sem.run_bind, h.risAgg, Result.andThen_ok, ha]
    simp [load, Sem.run, h5]
/-- A slice that is read: what it holds. -/
theorem rd_run {pv : Nat → Prop} {w0 : World} {mem : Mem} {z : Cells} {v : AV} {K : Cells → Prop} (h : rdVC mem z v K) :
    ∃ cs, K cs ∧ v.good = true ∧ ∀ W, MRel pv w0 mem W → ∃ A c, v.conc = .slice A cs.len c ∧ cs.len ≤ c ∧ Sl id W A cs.vals ∧ (∀ k, blkC A c = some k → k < W.heap.size) := by
  cases v with
  | nils =>
    refine ⟨_, h, rfl, fun W hM => ⟨none, 0, ?_, ?_, ?_, fun k hk => by cases hk⟩⟩
    · have : (z.part 0 0).len = 0 := by rw [Cells.part_len]; omega
      rw [this]; rfl
    · rw [Cells.part_len]; omega
    · have : (z.part 0 0).vals = [] := by rw [Cells.vals_part]; simp
      rw [this]; exact Sl.nil W none
  | ros l A n c =>
    simp only [rdVC] at h
    cases hg : getA mem l with
    | none => simp [hg] at h
    | some e =>
      rw [hg] at h
      cases e with
      | ro A' c' cs =>
        obtain ⟨⟨rfl, rfl, rfl⟩, hK⟩ := h
        refine ⟨cs, hK, rfl, fun W hM => ?_⟩
        obtain ⟨h1, h2, h3⟩ := hM.ok _ _ hg
        exact ⟨_, _, rfl, h2, h1, fun k hk => (h3 k (blkC_up _ hk)).1⟩
      | _ => exact h.elim
  | slc l g off len cap =>
    simp only [rdVC] at h
    cases hg : getA mem l with
    | none => simp [hg] at h
    | some e =>
      rw [hg] at h
      cases e with
      | own g' t cs =>
        obtain ⟨⟨rfl, h1, h2, h4⟩, hK⟩ := h
        refine ⟨_, hK, rfl, fun W hM => ?_⟩
        obtain ⟨ho, hb, h3⟩ := hM.ok _ _ hg
        have hl : (cs.part off len).len = len := by rw [Cells.part_len]; omega
        refine ⟨some ⟨g', off, none⟩, cap, by rw [hl]; rfl, by omega, ⟨by rw [Cells.vals_length, hl]; omega, fun i x hx => ⟨g', off, rfl, ?_⟩⟩, fun k hk => ?_⟩
        · rw [ho.cell]
          rw [Cells.vals_part, List.getElem?_take] at hx
          split at hx
          · rw [List.getElem?_drop] at hx; simpa using hx
          · cases hx
        · injection (blkC_A hk) with hk; subst hk; exact ho.lt
      | _ => exact h.elim
  | grow l v n =>
    simp only [rdVC] at h
    cases hg : getA mem l with
    | none => simp [hg] at h
    | some e =>
      rw [hg] at h
      cases e with
      | row v' e cs =>
        obtain ⟨⟨rfl, rfl⟩, hK⟩ := h
        refine ⟨cs, hK, rfl, fun W hM => ?_⟩
        obtain ⟨ho, h3⟩ := hM.ok _ _ hg
        have ho' : W.ownsRow w0.heap.size e 1 v' cs.len (cs.vals.map id) := by rw [List.map_id]; exact ho
        obtain ⟨A, c, h1, h2, h4, h5⟩ := owns_sl ho'
        refine ⟨A, c, h1, h2, h5, fun k hk => ?_⟩
        refine MEok.blk_lt (pv := pv) (w0 := w0) (e := .row v' e cs) ⟨ho, h3⟩ k ?_
        subst h1
        have hk := blkC_A hk
        cases A with
        | none => cases hk
        | some a => exact hk
      | frow v' cs =>
        obtain ⟨⟨rfl, rfl⟩, hK⟩ := h
        refine ⟨cs, hK, rfl, fun W hM => ?_⟩
        obtain ⟨A, c, h1, h2, h3, h4⟩ := hM.ok _ _ hg
        exact ⟨A, c, h1, h2, h3, fun k hk => (h4 k (blkC_A hk)).1⟩
      | _ => exact h.elim
  | _ => exact h.elim
theorem fold_set (arr : Array Value) (vs : List Value) (off : Nat) (h : off + vs.length ≤ arr.size) :
    (vs.toArray.zipIdx.foldl (fun cs (c, j) => cs.setIfInBounds (off + j) c) arr) = (arr.toList.take off ++ vs ++ arr.toList.drop (off + vs.length)).toArray := by
  have key : ∀ (vs : List Value) (k : Nat) (arr : Array Value), off + k + vs.length ≤ arr.size →
      ((vs.zipIdx k).foldl (fun cs (p : Value × Nat) => cs.setIfInBounds (off + p.2) p.1) arr) = (arr.toList.take (off + k) ++ vs ++ arr.toList.drop (off + k + vs.length)).toArray := by
    intro vs
    induction vs with
    | nil => intro k arr h; simp
    | cons v r ih =>
      intro k arr h
      simp only [List.length_cons] at h
      rw [List.zipIdx_cons, List.foldl_cons, ih (k + 1) _ (by simp; omega)]
      apply Array.ext'
      simp only [Array.toList_setIfInBounds]
      apply List.ext_getElem?
      intro j
      have hal : arr.toList.length = arr.size := by simp
      simp only [List.getElem?_append, List.getElem?_take, List.getElem?_drop, List.length_take, List.length_append, List.length_cons, List.length_set, List.getElem?_set, hal]
      rw [Nat.min_eq_left (by omega), Nat.min_eq_left (by omega)]
      by_cases h1 : j < off + k
      · simp only [h1, show j < off + (k + 1) by omega, show j < off + (k + 1) + r.length by omega, show j < off + k + (r.length + 1) by omega, if_true, show off + k ≠ j by omega, if_false]
      · by_cases h2 : j = off + k
        · subst h2
          simp only [Nat.lt_irrefl, if_false, show off + k < off + k + (r.length + 1) by omega, show off + k < off + (k + 1) + r.length by omega, show off + k < off + (k + 1) by omega, show off + k < arr.size by omega, if_true, Nat.sub_self, List.getElem?_cons_zero]
        · by_cases h3 : j < off + (k + 1) + r.length
          · simp only [h1, h3, show ¬ j < off + (k + 1) by omega, show j < off + k + (r.length + 1) by omega, if_true, if_false]
            rw [show j - (off + k) = (j - (off + (k + 1))) + 1 by omega, List.getElem?_cons_succ]
          · simp only [h1, h3, show ¬ j < off + k + (r.length + 1) by omega, if_false]
            rw [show off + (k + 1) + r.length + (j - (off + (k + 1) + r.length)) = j by omega, show off + k + (r.length + 1) + (j - (off + k + (r.length + 1))) = j by omega]
            simp [show off + k ≠ j by omega]
  have := key vs 0 arr (by simpa using h)
  rw [← Array.foldl_toList]
  simpa using this
theorem fill_ok {place : Nat → Option (Nat × Nat)} : ∀ (ps : List (Nat × AV)) (cs : Cells) (K : Cells → Prop) (vs : List (Nat × Value)), fillVC place cs ps K →
    vs.length = ps.length → (∀ (j : Nat) (p : Nat × AV) (q : Nat × Value), ps[j]? = some p → vs[j]? = some q → q.1 = p.1 ∧ p.2.is q.2) → cs.ones = true → ∃ cs', K cs' ∧ Instr.fill place cs.vals.toArray vs = some cs'.vals.toArray ∧ cs'.len = cs.len
  | [], cs, K, vs, h, hl, _, _ => by
    obtain rfl := List.eq_nil_of_length_eq_zero hl
    exact ⟨cs, h, rfl, rfl⟩
  | (i, v) :: r, cs, K, [], h, hl, _, _ => by simp at hl
  | (i, v) :: r, cs, K, (i', V) :: vr, h, hl, hv, h1 => by
    obtain ⟨hi, hV⟩ := hv 0 (i, v) (i', V) rfl rfl
    dsimp only at hi hV
    subst hi
    unfold fillVC at h
    unfold Instr.fill
    cases hp : place i' with
    | none => simp [hp] at h
    | some q =>
      obtain ⟨off, size⟩ := q
      simp only [hp] at h ⊢
      by_cases hs : size = 1
      · rw [if_pos hs] at h
        obtain ⟨ho, h⟩ := h
        cases hset : cs.set off v with
        | none => simp [hset] at h
        | some c1 =>
          simp only [hset] at h
          obtain ⟨e1, e2, e3, e4⟩ := Cells.set_ok cs off v c1 hset
          have hVc : V = v.conc := by
            rcases hV with rfl | hV
            · exact absurd rfl e4
            · exact hV
          have hVcells : V.cells = #[V] := by rw [hVc]; revert e3; cases v.conc <;> simp [Value.oneCell', Value.cells]
          have h1' := Cells.set_ones cs off v c1 hset h1
          obtain ⟨c2, hK, hf, hlen⟩ := fill_ok r c1 K vr h (by simpa using hl) (fun j p q hp hq => hv (j + 1) p q hp hq) h1'
          refine ⟨c2, hK, ?_, by omega⟩
          rw [hVcells, hs]
          have : ¬ (decide ((#[V] : Array Value).size ≠ 1) || decide (off + (#[V] : Array Value).size > cs.vals.toArray.size)) = true := by
            have := Cells.vals_length cs
            simp; omega
          rw [if_neg this]
          rw [← hf]
          congr 1
          rw [e1, hVc]
          simp
      · rw [if_neg hs] at h
        cases hc : v.cells with
        | none => simp [hc] at h
        | some d =>
          simp only [hc] at h
          obtain ⟨⟨hd, ho⟩, h⟩ := h
          cases hu : cs.upd off d with
          | none => simp [hu] at h
          | some c1 =>
            simp only [hu] at h
            obtain ⟨e1, e2⟩ := Cells.upd_ok cs off d c1 hu (by omega)
            have hVcells := AV.cells_ok v d hc V hV
            have h1' := Cells.upd_ones cs off d c1 hu h1
            obtain ⟨c2, hK, hf, hlen⟩ := fill_ok r c1 K vr h (by simpa using hl) (fun j p q hp hq => hv (j + 1) p q hp hq) h1'
            refine ⟨c2, hK, ?_, by omega⟩
            rw [hVcells]
            have hdl := Cells.vals_length d
            have hcl := Cells.vals_length cs
            have : ¬ (decide (d.vals.toArray.size ≠ size) || decide (off + d.vals.toArray.size > cs.vals.toArray.size)) = true := by
              simp; omega
            rw [if_neg this, ← hf, e1]
            congr 1
            exact fold_set cs.vals.toArray d.vals off (by simp; omega)
end Go.Proofs.Ytlcaobnojbkmbaa
/- What is owed for each operation, told without a world: operations that make and write nothing are told rightly (joined). For any program. -/
namespace Go.Proofs.Ytlcaobnojbkmbaa
open Go Go.RowKit
set_option linter.unusedVariables false
set_option linter.unusedSimpArgs false
variable {ds : List Deferred}

/-- What 'pureVC' is worth. -/
def PureOk (P : Program) (pv : Nat → Prop) (w0 : World) (mem : Mem) (c : Sem Next) (K : KO) : Prop :=
  ∃ v m n, v.good = true ∧ K v m n ∧ NoNew mem m ∧ ∀ W, MRel pv w0 mem W → MRel pv w0 m W ∧ c.run P W = .ok (.value v.conc) W
section
variable {P : Program} {tt : TT} {pv : Nat → Prop} {w0 : World} {env : Env} {mem : Mem} {nx : Nat} {a : Act} {N : Nat} {K : KO}
theorem same_ok {c : Sem Next} (v : AV) (hg : v.good = true) (hK : K v mem nx) (h : ∀ W, MRel pv w0 mem W → c.run P W = .ok (.value v.conc) W) : PureOk P pv w0 mem c K :=
  ⟨v, mem, nx, hg, hK, NoNew.refl mem, fun W hW => ⟨hW, h W hW⟩⟩
theorem ev_is {x : Operand} {v : AV} (hE : ERel ds env a N) (h : ev env x = v) (hg : v.good = true) : a.eval x = v.conc := AV.is_good (h ▸ ev_ok hE x) hg
theorem run_value {c : Sem Value} {v : Value} {W W' : World} (h : c.run P W = .ok v W') : (do pure (Next.value (← c)) : Sem Next).run P W = .ok (.value v) W' := by
  simp only [Sem.run_bind, h, Result.andThen_ok, Sem.run_pure]
theorem eqlArr {k : IntKind} {α : Type} [DecidableEq α] {f : α → Value} {j : α → Int} (hf : ∀ x, f x = .int k (j x)) (hj : ∀ x y, j x = j y → x = y) (hTT : TTok P tt) {t e n : Nat} {i : TI} (ht : tt t = some i) (hd : i.dsc = .array n e) (he : (tt e).map TI.dsc = some (.int k)) (xs ys : List α) (hx : xs.length = n) (hy : ys.length = n) (op : BinOp) (p q : Operand) (ho : op = .eql ∨ op = .neq) (W : World) :
    (do eqGuard op t p q (.agg (xs.map f).toArray) (.agg (ys.map f).toArray); binOp op t (.agg (xs.map f).toArray) (.agg (ys.map f).toArray) : Sem Value).run P W = .ok (.bool (if op = .eql then decide (xs = ys) else !decide (xs = ys))) W := by
  have hti := hTT t i ht
  obtain ⟨ie, hie, hde⟩ := Option.map_eq_some_iff.1 he
  have hei := hTT e ie hie
  have h1 : P.underlying t = some (.array n e) := by have := hti.dsc; rw [hd] at this; exact this
  have h2 : P.underlying e = some (.int k) := by have := hei.dsc; rw [hde] at this; exact this
  have h3 : (P.info? e).map (·.size) = some 1 := by rw [hei.info_size, hei.one (by rw [hde]; rfl)]
  have h4 := hti.eqg (by rw [hd]; rfl)
  have h5 := run_eqi_arr hf hj t e n h1 h3 h2 xs ys hx hy W
  simp only [Sem.run_bind, run_eqGuard_agg W _ _ _ _ _ _ h4, Result.andThen_ok]
  rcases ho with rfl | rfl
  · simp [run_eql_struct, h5]
  · simp [binOp, Op.equal, Op.maxDepth, h5]
theorem strU_le {off : Nat} : ∀ {l : List (Nat × TypeId × Nat)} {n : Nat} {off : Nat}, strU tt off l n = true → off ≤ n
  | [], n, off, h => by simp only [strU, beq_iff_eq] at h; omega
  | (o, ft, sz) :: r, n, off, h => by
    simp only [strU, Bool.and_eq_true] at h
    have := strU_le (off := off) h.2
    omega
theorem strU_run (hTT : TTok P tt) (xs ys : List U64) (hyn : ys.length = xs.length) (W : World) : ∀ (gl : List Field) (l : List (Nat × TypeId × Nat)) (off : Nat), gl.map (fun f => (f.offset, f.type)) = l.map (fun p => (p.1, p.2.1)) → gl.all (fun f => f.name != "_") = true → strU tt off l xs.length = true →
    Sem.run P (forIn gl ((none : Option Bool), ()) fun f __s =>
      if f.name ≠ "_" then do
        let __do_lift ← part f.type (xs.map v64).toArray f.offset
        let __do_lift_1 ← part f.type (ys.map v64).toArray f.offset
        let __do_lift ← Op.equalIn 9999 f.type __do_lift __do_lift_1
        if (!__do_lift) = true then pure (ForInStep.done (some false, ())) else pure (ForInStep.yield (none, ()))
      else pure (ForInStep.yield (none, ()))) W
    = .ok ((if xs.drop off = ys.drop off then (none : Option Bool) else some false), ()) W
  | [], [], off, _, _, h => by
    simp only [strU, beq_iff_eq] at h
    rw [List.drop_eq_nil_of_le (by omega), List.drop_eq_nil_of_le (by omega)]
    simp
  | [], _ :: _, _, h, _, _ => by simp at h
  | _ :: _, [], _, h, _, _ => by simp at h
  | f :: gl, (o, ft, sz) :: l, off, hm, hn, h => by
    simp only [List.map_cons, List.cons.injEq, Prod.mk.injEq] at hm
    obtain ⟨⟨ho, hft⟩, hm⟩ := hm
    simp only [List.all_cons, Bool.and_eq_true, bne_iff_ne, ne_eq] at hn
    obtain ⟨hn1, hn2⟩ := hn
    simp only [strU, Bool.and_eq_true, beq_iff_eq] at h
    obtain ⟨⟨h1, h2⟩, h3⟩ := h
    have hle := strU_le (off := off) h3
    subst h1
    cases hfi : tt ft with
    | none => simp [hfi] at h2
    | some fi =>
      simp only [hfi, Bool.and_eq_true, beq_iff_eq] at h2
      obtain ⟨hsz, h2⟩ := h2
      have hok := hTT ft fi hfi
      cases hd : fi.dsc <;> simp only [hd, Bool.false_eq_true] at h2
      rename_i m e
      simp only [Bool.and_eq_true, beq_iff_eq] at h2
      obtain ⟨rfl, h2⟩ := h2
      cases hei : tt e with
      | none => simp [hei] at h2
      | some ei =>
        simp only [hei] at h2
        have hde : ei.dsc = .int .u64 := by
          split at h2
          · assumption
          · cases h2
        have hTe := hTT e ei hei
        have e1 : P.underlying ft = some (.array m e) := by have := hok.dsc; rw [hd] at this; exact this
        have e2 : P.underlying e = some (.int .u64) := by have := hTe.dsc; rw [hde] at this; exact this
        have e3 : (P.info? e).map (·.size) = some 1 := by rw [hTe.info_size, hTe.one (by rw [hde]; rfl)]
        have hp : ∀ zs : List U64, zs.length = xs.length → (part ft (zs.map v64).toArray o).run P W = .ok (.agg (cs64 ((zs.drop o).take m))) W := by
          intro zs hz
          obtain ⟨v, _, hv, hr⟩ := part_run (P := P) (W := W) hok (K := fun v => v = (Cells.c64 zs).sub o fi.size) (cs := .c64 zs) (off := o) (by
            unfold pickC; rw [if_pos (by rw [hd]; rfl)]; exact ⟨by simp only [Cells.len]; omega, rfl⟩)
          subst hv
          rw [hsz] at hr
          exact hr
        have hq := run_equalIn_arr (f := v64) (fun _ => rfl) (fun _ _ => i64_inj.1) 9997 ft e m e1 e3 e2 ((xs.drop o).take m) ((ys.drop o).take m) (by simp; omega) (by simp; omega) W
        rw [List.forIn_cons]
        simp only [hft, ho, ne_eq, hn1, not_false_eq_true, if_true, Sem.run_bind, hp xs rfl, hp ys hyn, Result.andThen_ok, cs64, hq]
        have es : ∀ zs : List U64, zs.drop o = (zs.drop o).take m ++ zs.drop (o + m) := fun zs => by rw [← List.drop_drop, List.take_append_drop]
        by_cases hx : (xs.drop o).take m = (ys.drop o).take m
        · have ih := strU_run hTT xs ys hyn W gl l (o + m) hm hn2 h3
          simp only [hx, decide_true, Bool.not_true, Bool.false_eq_true, if_false, Sem.run_pure, Result.andThen_ok]
          simp only [ne_eq] at ih
          rw [ih]
          have : (xs.drop o = ys.drop o) = (xs.drop (o + m) = ys.drop (o + m)) := by
            rw [es xs, es ys, hx]
            exact propext ⟨fun h => (List.append_cancel_left h), fun h => by rw [h]⟩
          simp only [this]
        · have : ¬ xs.drop o = ys.drop o := fun h => hx (by rw [h])
          simp only [hx, decide_false, Bool.not_false, if_true, Sem.run_pure, Result.andThen_ok, this, if_false]
theorem eqlStr (hTT : TTok P tt) {t : Nat} {i : TI} (ht : tt t = some i) {fs : List (Nat × TypeId × Nat)} (hd : i.dsc = .struct fs) (xs ys : List U64) (hs : strU tt 0 fs xs.length = true) (hyn : ys.length = xs.length) (hB : i.dsc.eqB = true) (op : BinOp) (p q : Operand) (ho : op = .eql ∨ op = .neq) (W : World) :
    (do eqGuard op t p q (.agg (xs.map v64).toArray) (.agg (ys.map v64).toArray); binOp op t (.agg (xs.map v64).toArray) (.agg (ys.map v64).toArray) : Sem Value).run P W = .ok (.bool (if op = .eql then decide (xs = ys) else !decide (xs = ys))) W := by
  have hti := hTT t i ht
  have hu : (TDsc.struct fs).ok P t := by have := hti.dsc; rwa [hd] at this
  obtain ⟨gs, hu, hgs, _, hnm, hst⟩ := hu
  have h4 := hti.eqg hB
  have h5 : (Op.equalIn 10000 t (.agg (xs.map v64).toArray) (.agg (ys.map v64).toArray)).run P W = .ok (decide (xs = ys)) W := by
    rw [Op.equalIn]
    have hl := strU_run (P := P) hTT xs ys hyn W gs.toList fs 0 hgs hnm hs
    simp only [Sem.run_bind, run_underlying hu, Result.andThen_ok, run_program, hst, Bool.false_eq_true, if_false, ← Array.forIn_toList]
    simp only [Sem.run_bind, ne_eq] at hl
    first | rw [hl] | (simp only [ne_eq]; rw [hl])
    simp only [Result.andThen_ok, List.drop_zero]
    by_cases h : xs = ys <;> simp [h]
  simp only [Sem.run_bind, run_eqGuard_agg W _ _ _ _ _ _ h4, Result.andThen_ok]
  rcases ho with rfl | rfl
  · simp [run_eql_struct, h5]
  · simp [binOp, Op.equal, Op.maxDepth, h5]
theorem eqlBool (hTT : TTok P tt) {t : Nat} (he : (tt t).map TI.dsc = some .bool) (x y : Bool) (op : BinOp) (p q : Operand) (ho : op = .eql ∨ op = .neq) (W : World) :
    (do eqGuard op t p q (.bool x) (.bool y); binOp op t (.bool x) (.bool y) : Sem Value).run P W = .ok (.bool (if op = .eql then x == y else x != y)) W := by
  obtain ⟨ie, hie, hde⟩ := Option.map_eq_some_iff.1 he
  have h2 : P.underlying t = some .bool := by have := (hTT t ie hie).dsc; rw [hde] at this; exact this
  have h5 : (Op.equalIn (9999 + 1) t (.bool x) (.bool y)).run P W = .ok (x == y) W := by
    rw [Op.equalIn]
    simp only [Sem.run_bind, run_underlying h2, Result.andThen_ok, Sem.run_pure]
  have h6 : ∀ op, (eqGuard op t p q (.bool x) (.bool y)).run P W = .ok () W := fun op => by cases op <;> simp [eqGuard]
  have h7 : (Op.equal t (.bool x) (.bool y)).run P W = .ok (x == y) W := h5
  rcases ho with rfl | rfl
  · simp only [Sem.run_bind, h6, Result.andThen_ok, binOp, h7, Sem.run_pure, if_true]
  · simp only [Sem.run_bind, h6, Result.andThen_ok, binOp, h7, Sem.run_pure, reduceCtorEq, if_false]
    rfl
theorem addA (b o i : Nat) : (⟨b, o, none⟩ : Addr).add i = ⟨b, o + i, none⟩ := by unfold Addr.add; split <;> simp_all
theorem load_rd {t : TypeId} {i : TI} (hi : TIok P t i) {A : Option Addr} {cs : Cells} {j : Nat} {K : AV → Prop} (l : Nat) (hread : ∀ W, MRel pv w0 mem W → ∃ b o, A = some ⟨b, o, none⟩ ∧ ∀ k v, cs.vals[k]? = some v → W.cell? ⟨b, o + k, none⟩ = some v) (hp : 0 < cs.len) (h : pickC i cs j K) :
    ∃ u, u.good = true ∧ K u ∧ ∀ W, MRel pv w0 mem W → (Instr.loadAt t (AV.rptr l A j).conc).run P W = .ok u.conc W := by
  have fin : ∀ u : AV, (∀ W b o, (∀ k v, cs.vals[k]? = some v → W.cell? ⟨b, o + k, none⟩ = some v) → (loadVar t ⟨b, o + j, none⟩).run P W = .ok u.conc W) → ∀ W, MRel pv w0 mem W → (Instr.loadAt t (AV.rptr l A j).conc).run P W = .ok u.conc W := fun u hu W hW => by
    obtain ⟨b, o, rfl, hc⟩ := hread W hW
    simp only [AV.conc, Option.map_some, addA, Instr.loadAt, Instr.sureAddr, Sem.run_bind, Sem.run_pure, Result.andThen_ok]
    exact hu W b o hc
  unfold pickC at h
  by_cases ha : i.dsc.agg = true
  · rw [if_pos ha] at h
    refine ⟨_, Cells.sub_good cs _ _, h.2, fin _ (fun W b o hc => ?_)⟩
    obtain ⟨v, hv1, hv2, hv3⟩ := var_run hi (K := fun v => v = cs.sub j i.size) (b := b) (o := o) (off := j) (P := P) (W := W) (cs := cs) hc (by unfold pickC; rw [if_pos ha]; exact ⟨h.1, rfl⟩)
    subst hv2
    exact hv3
  · rw [if_neg ha] at h
    refine ⟨_, h.2.1, h.2.2, fin _ (fun W b o hc => ?_)⟩
    obtain ⟨v, hv1, hv2, hv3⟩ := var_run hi (K := fun v => v = cs.get j) (b := b) (o := o) (off := j) (P := P) (W := W) (cs := cs) hc (by unfold pickC; rw [if_neg ha]; exact ⟨h.1, h.2.1, rfl⟩)
    subst hv2
    exact hv3
theorem load_ok (hTT : TTok P tt) {t : TypeId} {i : TI} (ht : tt t = some i) {v : AV} {K : AV → Prop} (h : loadVC mem i v K) :
    ∃ u, u.good = true ∧ K u ∧ ∀ W, MRel pv w0 mem W → (Instr.loadAt t v.conc).run P W = .ok u.conc W := by
  have hi := hTT t i ht
  cases v with
  | ptr l g j =>
    simp only [loadVC] at h
    cases hg : getA mem l with
    | none => simp [hg] at h
    | some e =>
      rw [hg] at h
      cases e with
      | own g' u cs =>
        obtain ⟨rfl, h⟩ := h
        by_cases hw : i.dsc.agg = true ∧ j = 0 ∧ i.size = cs.len
        · rw [if_pos hw] at h
          obtain ⟨ha, rfl, hs⟩ := hw
          refine ⟨_, by cases cs <;> rfl, h, fun W hW => ?_⟩
          obtain ⟨ho, _, _⟩ := hW.ok _ _ hg
          obtain ⟨d, hd, hda⟩ := hi.under
          rw [Cells.agg_conc]
          simp only [AV.conc, Instr.loadAt, Instr.sureAddr, Sem.run_bind, Sem.run_pure, Result.andThen_ok]
          exact run_loadVar_row W g' u t _ (0, 0) d ho hd (by rw [ha] at hda; cases d <;> first | rfl | (simp at hda; done)) (by rw [hi.info_size, hs]; simp [Cells.vals_length])
        · rw [if_neg hw] at h
          -- the value does not hang on the world
          have key : ∀ W, MRel pv w0 mem W → ∃ v, v.good = true ∧ K v ∧ (loadVar t ⟨g', 0 + j, none⟩).run P W = .ok v.conc W := fun W hW => by
            obtain ⟨ho, _, _⟩ := hW.ok _ _ hg
            exact var_run hi (b := g') (o := 0) (off := j) (fun k v hv => by rw [ho.cell]; simpa using hv) h
          unfold pickC at h
          by_cases ha : i.dsc.agg = true
          · rw [if_pos ha] at h
            refine ⟨_, Cells.sub_good cs _ _, h.2, fun W hW => ?_⟩
            obtain ⟨ho, _, _⟩ := hW.ok _ _ hg
            obtain ⟨v, hv1, hv2, hv3⟩ := var_run hi (K := fun v => v = cs.sub j i.size) (b := g') (o := 0) (off := j) (P := P) (W := W) (cs := cs) (fun k v hv => by rw [ho.cell]; simpa using hv) (by unfold pickC; rw [if_pos ha]; exact ⟨h.1, rfl⟩)
            subst hv2
            simp only [AV.conc, Instr.loadAt, Instr.sureAddr, Sem.run_bind, Sem.run_pure, Result.andThen_ok]
            simpa using hv3
          · rw [if_neg ha] at h
            refine ⟨_, h.2.1, h.2.2, fun W hW => ?_⟩
            obtain ⟨ho, _, _⟩ := hW.ok _ _ hg
            obtain ⟨v, hv1, hv2, hv3⟩ := var_run hi (K := fun v => v = cs.get j) (b := g') (o := 0) (off := j) (P := P) (W := W) (cs := cs) (fun k v hv => by rw [ho.cell]; simpa using hv) (by unfold pickC; rw [if_neg ha]; exact ⟨h.1, h.2.1, rfl⟩)
            subst hv2
            simp only [AV.conc, Instr.loadAt, Instr.sureAddr, Sem.run_bind, Sem.run_pure, Result.andThen_ok]
            simpa using hv3
      | _ => exact h.elim
  | rptr l A j =>
    simp only [loadVC] at h
    cases hg : getA mem l with
    | none => simp [hg] at h
    | some e =>
      rw [hg] at h
      cases e with
      | ro A' c' cs =>
        obtain ⟨rfl, hp, h⟩ := h
        refine load_rd hi l (fun W hW => ?_) hp h
        obtain ⟨h1, _, _⟩ := hW.ok _ _ hg
        obtain ⟨b, o, hA, hc⟩ := h1.all (by rw [Cells.vals_length]; exact hp)
        exact ⟨b, o, hA, hc⟩
      | row v' e cs =>
        obtain ⟨rfl, hp, h⟩ := h
        refine load_rd hi l (fun W hW => ?_) hp h
        obtain ⟨h1, _⟩ := hW.ok _ _ hg
        have h2 := h1
        rcases h2.2 with ⟨rfl, hn⟩ | ⟨g, cap, cur, rfl, _⟩
        · omega
        · exact ⟨g, 0, rfl, fun k v hv => by
            have := h1.cells (g := g) rfl k v hv
            rwa [addA] at this⟩
      | _ => exact h.elim
  | _ => exact h.elim
end
end Go.Proofs.Ytlcaobnojbkmbaa
/- What is owed for each operation, told without a world: operations that make and write nothing are told rightly (all of them). For any program. -/
namespace Go.Proofs.Ytlcaobnojbkmbaa
open Go Go.RowKit
set_option linter.unusedVariables false
set_option linter.unusedSimpArgs false
variable {ds : List Deferred}
section
variable {P : Program} {tt : TT} {pv : Nat → Prop} {w0 : World} {env : Env} {mem : Mem} {nx : Nat} {a : Act} {N : Nat} {K : KO}
theorem exec_value {ρ : Operand → Value} {o : Oper} {s : Sem Value} {v : Value} {W : World} (he : execOp ρ o = (do pure (Next.value (← s)))) (h : s.run P W = .ok v W) : (execOp ρ o).run P W = .ok (.value v) W := by
  rw [he]; exact run_value h
theorem pure_build (hTT : TTok P tt) (hE : ERel ds env a N) {t : TypeId} {ps : Array (Nat × Operand)} (h : pureVC tt env mem nx (.build t ps) K) : ∃ v, v.good = true ∧ K v mem nx ∧ ∀ W, (Instr.build t (ps.map fun (i, x) => (i, a.eval x))).run P W = .ok v.conc W := by
  simp only [pureVC] at h
  cases ht : tt t with
  | none => simp [ht] at h
  | some i =>
    rw [ht] at h
    have hi := hTT t i ht
    have hlen : (ps.map fun (i, x) => (i, a.eval x)).toList.length = (ps.toList.map fun p => (p.1, ev env p.2)).length := by simp
    have hpts : ∀ (j : Nat) (p : Nat × AV) (q : Nat × Value), (ps.toList.map fun p => (p.1, ev env p.2))[j]? = some p → (ps.map fun (i, x) => (i, a.eval x)).toList[j]? = some q → q.1 = p.1 ∧ p.2.is q.2 := by
      intro j p q hp hq
      rw [List.getElem?_map] at hp
      rw [Array.toList_map, List.getElem?_map] at hq
      obtain ⟨z, hz, rfl⟩ := Option.map_eq_some_iff.1 hp
      rw [hz] at hq
      simp only [Option.map_some, Option.some.injEq] at hq
      subst hq
      exact ⟨rfl, ev_ok hE _⟩
    cases hd : i.dsc with
    | array n e =>
      simp only [hd] at h
      cases he : tt e with
      | none => simp [he] at h
      | some ie =>
        simp only [he] at h
        have hei := hTT e ie he
        obtain ⟨cs', hK, hf, _⟩ := fill_ok _ _ _ _ h hlen hpts hi.ones
        refine ⟨cs'.agg, by cases cs' <;> rfl, hK, fun W => ?_⟩
        have hu : P.underlying t = some (.array n e) := by have := hi.dsc; rw [hd] at this; exact this
        unfold Instr.build
        simp only [Sem.run_bind, hi.rzero, Result.andThen_ok, run_underlying hu, hei.rsize, hi.zcells, hf, Sem.run_pure, Cells.agg_conc]
    | struct fs =>
      simp only [hd] at h
      have hu : (TDsc.struct fs).ok P t := by have := hi.dsc; rwa [hd] at this
      obtain ⟨gs, hu, hgs, hpl, -⟩ := hu
      have hplace : (fun j : Nat => (fs.map fun p => (p.1, p.2.2)).toArray[j]?) = fun j : Nat => (fs[j]?).map fun (p : Nat × TypeId × Nat) => (p.1, p.2.2) := by funext j; simp
      obtain ⟨cs', hK, hf, _⟩ := fill_ok _ _ _ _ h hlen hpts hi.ones
      refine ⟨cs'.agg, by cases cs' <;> rfl, hK, fun W => ?_⟩
      unfold Instr.build
      have hrp := run_places (P := P) W _ _ hpl
      simp only [Sem.run_bind, hi.rzero, Result.andThen_ok, run_underlying hu, hi.zcells, Sem.run_pure, Cells.agg_conc]
      rw [Array.mapM_eq_mapM_toList]
      simp only [map_eq_pure_bind, bind_assoc, pure_bind] at hrp ⊢
      simp only [Sem.run_bind, hrp, Result.andThen_ok, hplace, hf, Sem.run_pure]
    | _ => simp [hd] at h
theorem bnd_ok (hE : ERel ds env a N) {o : Option Operand} {d : Nat} {K : Nat → Prop} (h : bndVC (o.map (ev env)) d K) : ∃ n, K n ∧ ((o.map a.eval = none ∧ n = d) ∨ ∃ z : Int, o.map a.eval = some (.int .i64 z) ∧ 0 ≤ z ∧ z.toNat = n) := by
  cases o with
  | none => exact ⟨d, h, .inl ⟨rfl, rfl⟩⟩
  | some x =>
    simp only [Option.map_some, bndVC] at h
    split at h
    · rename_i hx; cases hx
    · rename_i z hx
      injection hx with hx
      exact ⟨_, h.2, .inr ⟨z, by rw [Option.map_some, ev_is hE hx rfl]; rfl, h.1, rfl⟩⟩
    · exact h.elim
theorem bounds_run {W : World} {sl : Bool} {len cap l h m : Nat} {lo hi mx : Option Value} (hm : (mx = none ∧ m = cap) ∨ ∃ z : Int, mx = some (.int .i64 z) ∧ 0 ≤ z ∧ z.toNat = m) (hmc : m ≤ cap)
    (hh : (hi = none ∧ mx = none ∧ h = len) ∨ ∃ z : Int, hi = some (.int .i64 z) ∧ 0 ≤ z ∧ z.toNat = h) (hhm : h ≤ m) (hl : (lo = none ∧ l = 0) ∨ ∃ z : Int, lo = some (.int .i64 z) ∧ 0 ≤ z ∧ z.toNat = l) (hlh : l ≤ h) :
    (Instr.sliceBounds sl len cap lo hi mx).run P W = .ok (l, h, m) W := by
  have sb : ∀ (z : Int) (y n : Nat) (c : BoundsCode), 0 ≤ z → z.toNat = n → n ≤ y → (Instr.sliceBound (.int .i64 z) y c).run P W = .ok n W := by
    intro z y n c h0 hn hy
    unfold Instr.sliceBound
    have : z ≤ (y : Int) := by omega
    simp only [asIntOf, Sem.run_bind, Sem.run_pure, Result.andThen_ok, h0, this, and_self, if_true, hn]
  unfold Instr.sliceBounds
  rcases hm with ⟨rfl, rfl⟩ | ⟨z1, rfl, h1, e1⟩ <;> rcases hh with ⟨rfl, he, rfl⟩ | ⟨z2, rfl, h2, e2⟩ <;> rcases hl with ⟨rfl, rfl⟩ | ⟨z3, rfl, h3, e3⟩ <;> (try cases he)
  all_goals simp only [Sem.run_bind, Sem.run_pure, Result.andThen_ok]
  all_goals first
    | (rw [sb z3 _ _ _ h3 e3 hlh]; rfl)
    | (rw [sb z2 _ _ _ h2 e2 hhm]; simp only [Result.andThen_ok, sb z3 _ _ _ h3 e3 hlh])
    | (rw [sb z2 _ _ _ h2 e2 hhm]; rfl)
    | (rw [sb z1 _ _ _ h1 e1 hmc]; simp only [Result.andThen_ok]; rw [sb z2 _ _ _ h2 e2 hhm]; simp only [Result.andThen_ok, sb z3 _ _ _ h3 e3 hlh])
    | (rw [sb z1 _ _ _ h1 e1 hmc]; simp only [Result.andThen_ok]; rw [sb z2 _ _ _ h2 e2 hhm]; rfl)
    | rfl
theorem hi_none {lo hi mx : Option Operand} {m h d : Nat} (hg : ((mx.map (ev env)).isNone || (hi.map (ev env)).isSome) = true) (hh : (hi.map a.eval = none ∧ h = d) ∨ ∃ z : Int, hi.map a.eval = some (.int .i64 z) ∧ 0 ≤ z ∧ z.toNat = h) (hd : mx = none → d = m) :
    (hi.map a.eval = none ∧ mx.map a.eval = none ∧ h = m) ∨ ∃ z : Int, hi.map a.eval = some (.int .i64 z) ∧ 0 ≤ z ∧ z.toNat = h := by
  rcases hh with ⟨h1, h2⟩ | h
  · cases hi with
    | none => cases mx with
      | none => exact .inl ⟨rfl, rfl, by rw [h2, hd rfl]⟩
      | some x => simp at hg
    | some x => simp at h1
  · exact .inr h
theorem pure_slice (hTT : TTok P tt) (hE : ERel ds env a N) {t : TypeId} {x : Operand} {lo hi mx : Option Operand} (h : sliceVC tt mem nx t (ev env x) (lo.map (ev env)) (hi.map (ev env)) (mx.map (ev env)) K) :
    ∃ v m n, v.good = true ∧ K v m n ∧ NoNew mem m ∧ ∀ W, MRel pv w0 mem W → MRel pv w0 m W ∧ (Instr.sliceAt t (a.eval x) (lo.map a.eval) (hi.map a.eval) (mx.map a.eval)).run P W = .ok v.conc W := by
  obtain ⟨hg, h⟩ := h
  have mxn : mx.map (ev env) = none → mx.map a.eval = none := by cases mx <;> simp
  cases hx : ev env x <;> simp only [hx] at h <;> try exact h.elim
  · -- a pointer to an array
    rename_i l g i
    cases ht : tt t with
    | none => simp [ht] at h
    | some ti =>
      simp only [ht] at h
      cases hd : ti.dsc <;> simp only [hd] at h <;> try exact h.elim
      rename_i n e
      have hu : P.underlying t = some (.array n e) := by have := (hTT t ti ht).dsc; rw [hd] at this; exact this
      obtain ⟨m, h, hm⟩ := bnd_ok hE h
      obtain ⟨hv, h, hh⟩ := bnd_ok hE h
      obtain ⟨lv, h, hl⟩ := bnd_ok hE h
      obtain ⟨⟨h1, h2, h3, h4⟩, h5, hK⟩ := h
      obtain ⟨ie, hie, hes⟩ := Option.map_eq_some_iff.1 h5
      refine ⟨_, _, _, rfl, hK, NoNew.refl mem, fun W hW => ⟨hW, ?_⟩⟩
      have hh' := hi_none (lo := lo) hg hh (m := n) (by rintro rfl; rcases hm with ⟨_, h⟩ | ⟨z, hz, _⟩; exact h; simp at hz)
      have hr := bounds_run (P := P) (W := W) (sl := false) (len := n) (cap := n) hm h3 (by rcases hh' with ⟨p, q, r⟩ | p; exact .inl ⟨p, q, r⟩; exact .inr p) h2 hl h1
      rw [ev_is hE hx rfl]
      unfold Instr.sliceAt
      simp only [AV.conc, Sem.run_bind, run_underlying hu, Result.andThen_ok, Instr.sureAddr, Sem.run_pure, hr, (hTT e ie hie).rsize, hes, Nat.mul_one, addA]
      by_cases hml : m = lv
      · have : lv = 0 := by omega
        simp [hml, this]
      · simp [hml]
  · rename_i l g off len cap
    cases ht : tt t with
    | none => simp [ht] at h
    | some ti =>
      simp only [ht] at h
      cases hd : ti.dsc <;> simp only [hd] at h <;> try exact h.elim
      rename_i e
      have hu : P.underlying t = some (.slice e) := by have := (hTT t ti ht).dsc; rw [hd] at this; exact this
      obtain ⟨m, h, hm⟩ := bnd_ok hE h
      obtain ⟨hv, h, hh⟩ := bnd_ok hE h
      obtain ⟨lv, h, hl⟩ := bnd_ok hE h
      obtain ⟨⟨h1, h2, h3, h4⟩, h5, hK⟩ := h
      obtain ⟨ie, hie, hes⟩ := Option.map_eq_some_iff.1 h5
      refine ⟨_, _, _, rfl, hK, NoNew.refl mem, fun W hW => ⟨hW, ?_⟩⟩
      have hh' : (hi.map a.eval = none ∧ mx.map a.eval = none ∧ hv = len) ∨ ∃ z : Int, hi.map a.eval = some (.int .i64 z) ∧ 0 ≤ z ∧ z.toNat = hv := by
        rcases hh with ⟨p, q⟩ | p
        · cases hi with
          | none => cases mx with
            | none => exact .inl ⟨rfl, rfl, q⟩
            | some x => simp at hg
          | some x => simp at p
        · exact .inr p
      have hr := bounds_run (P := P) (W := W) (sl := true) (len := len) (cap := cap) hm h3 hh' h2 hl h1
      rw [ev_is hE hx rfl, run_sliceAt_slice (h := by rw [show P.elem t = e from by simp [Program.elem, hu]]; exact hu)]
      unfold Instr.slice
      simp only [AV.conc, Sem.run_bind, run_underlying hu, Result.andThen_ok, Sem.run_pure, hr, (hTT e ie hie).rsize, hes, Nat.mul_one, Option.map_some, addA]
      by_cases hml : m = lv
      · have : lv = 0 := by omega
        simp [hml, this]
      · simp [hml]
  · rename_i l A n c
    cases ht : tt t with
    | none => simp [ht] at h
    | some ti =>
      simp only [ht] at h
      cases hd : ti.dsc <;> simp only [hd] at h <;> try exact h.elim
      rename_i e
      have hu : P.underlying t = some (.slice e) := by have := (hTT t ti ht).dsc; rw [hd] at this; exact this
      cases hgm : getA mem l with
      | none => simp [hgm] at h
      | some me =>
        rw [hgm] at h
        cases me with
        | ro A' c' cs =>
          obtain ⟨⟨rfl, rfl, hlen⟩, h⟩ := h
          -- the bounds
          have body : ∃ m hv lv : Nat, ((mx.map a.eval = none) ∨ ∃ z : Int, mx.map a.eval = some (.int .i64 z) ∧ 0 ≤ z ∧ z.toNat = m ∧ m ≤ n) ∧ ((hi.map a.eval = none ∧ mx.map a.eval = none ∧ hv = n) ∨ ∃ z : Int, hi.map a.eval = some (.int .i64 z) ∧ 0 ≤ z ∧ z.toNat = hv) ∧
              ((lo.map a.eval = none ∧ lv = 0) ∨ ∃ z : Int, lo.map a.eval = some (.int .i64 z) ∧ 0 ≤ z ∧ z.toNat = lv) ∧ lv ≤ hv ∧ hv ≤ n ∧ (mx.map a.eval = none ∨ hv ≤ m) ∧ (tt e).map TI.size = some 1 ∧ ∀ A1 c1, (mx.map a.eval ≠ none → c1 = m - lv) → K (.ros nx A1 (hv - lv) c1) ((nx, .ro A1 c1 (cs.part lv (hv - lv))) :: mem) (nx + 1) := by
            cases hmx : mx with
            | none =>
              simp only [hmx, Option.map_none] at h
              obtain ⟨hv, h, hh⟩ := bnd_ok hE h
              obtain ⟨lv, h, hl⟩ := bnd_ok hE h
              obtain ⟨⟨h1, h2⟩, h5, hK⟩ := h
              refine ⟨0, hv, lv, .inl rfl, ?_, hl, h1, h2, .inl rfl, h5, fun A1 c1 _ => hK A1 c1⟩
              rcases hh with ⟨p, q⟩ | p
              · exact .inl ⟨p, rfl, q⟩
              · exact .inr p
            | some mo =>
              simp only [hmx, Option.map_some] at h
              rw [show some (ev env mo) = (some mo).map (ev env) from rfl] at h
              obtain ⟨m, h, hm⟩ := bnd_ok hE h
              obtain ⟨hv, h, hh⟩ := bnd_ok hE h
              obtain ⟨lv, h, hl⟩ := bnd_ok hE h
              obtain ⟨⟨h1, h2, h3⟩, h5, hK⟩ := h
              refine ⟨m, hv, lv, .inr ?_, ?_, hl, h1, by omega, .inr h2, h5, fun A1 c1 hc => by rw [hc (by simp)]; exact hK A1⟩
              · rcases hm with ⟨p, _⟩ | ⟨z, p, q, r⟩
                · simp at p
                · exact ⟨z, p, q, r, h3⟩
              · rcases hh with ⟨p, q⟩ | p
                · cases hi with
                  | none => simp [hmx] at hg
                  | some x => simp at p
                · exact .inr p
          obtain ⟨m, hv, lv, hm, hh, hl, h1, h2, h3, h5, hK⟩ := body
          obtain ⟨ie, hie, hes⟩ := Option.map_eq_some_iff.1 h5
          -- the place and the capacity that it gets
          obtain ⟨m1, hm1, hm2⟩ : ∃ m1 : Nat, (mx.map a.eval = none → m1 = c') ∧ (mx.map a.eval ≠ none → m1 = m) := by
            by_cases hn : mx.map a.eval = none
            · exact ⟨c', fun _ => rfl, fun h => absurd hn h⟩
            · exact ⟨m, fun h => absurd h hn, fun _ => rfl⟩
          have hblkd : ∀ k, blkC (if m1 = lv then A' else A'.map (·.add lv)) (m1 - lv + (cs.part lv (hv - lv)).len) = some k → blkC A' (c' + cs.len) = some k := by
            intro k hk
            have hne := blkC_ne hk
            rw [Cells.part_len] at hne
            have hmn : m1 ≤ c' ∨ m1 ≤ cs.len := by
              rcases hm with hm | ⟨z, hz, _, _, hmn⟩
              · rw [hm1 hm]; exact .inl (Nat.le_refl _)
              · rw [hm2 (by rw [hz]; simp)]; exact .inr (by omega)
            rw [blkC_some (by omega)]
            replace hk := blkC_A hk
            cases A' with
            | none => split at hk <;> exact hk
            | some ad =>
              split at hk
              · exact hk
              · simp only [Option.map_some, blkA] at hk ⊢
                rw [← hk]; unfold Addr.add; split <;> rfl
          refine ⟨_, _, _, rfl, hK (if m1 = lv then A' else A'.map (·.add lv)) (m1 - lv) (fun hn => by rw [hm2 hn]), fun l2 e2 k he2 hk2 => ?_, fun W hW => ?_⟩
          · simp only [getA] at he2
            split at he2
            · injection he2 with he2; subst he2; exact ⟨l, _, hgm, hblkd k hk2⟩
            · exact ⟨l2, e2, he2, hk2⟩
          obtain ⟨hs, hcl, hbl⟩ := hW.ok _ _ hgm
          have hmc : m1 ≤ c' := by
            rcases hm with hm | ⟨z, hz, _, _, hmn⟩
            · rw [hm1 hm]; exact Nat.le_refl _
            · rw [hm2 (by rw [hz]; simp)]; omega
          have hvm : hv ≤ m1 := by
            rcases h3 with h3 | h3
            · rw [hm1 h3]; omega
            · by_cases hn : mx.map a.eval = none
              · rw [hm1 hn]; omega
              · rw [hm2 hn]; exact h3
          have hr := bounds_run (P := P) (W := W) (sl := true) (len := n) (cap := c') (m := m1) (lo := lo.map a.eval) (hi := hi.map a.eval) (mx := mx.map a.eval) (by
            rcases hm with hm | ⟨z, hz, h0, hz2, _⟩
            · exact .inl ⟨hm, hm1 hm⟩
            · exact .inr ⟨z, hz, h0, by rw [hz2, hm2 (by rw [hz]; simp)]⟩) hmc hh hvm hl h1
          refine ⟨hW.add nx _ ⟨⟨?_, fun j v hj => ?_⟩, ?_, ?_⟩ ?_, ?_⟩
          · rw [Cells.vals_part]
            have := hs.1
            simp only [List.length_take, List.length_drop]; omega
          · rw [Cells.vals_part, List.getElem?_take] at hj
            split at hj
            · rename_i hjl
              rw [List.getElem?_drop] at hj
              obtain ⟨b, o, rfl, hc⟩ := hs.2 (lv + j) v hj
              refine ⟨b, o + lv, ?_, ?_⟩
              · rw [if_neg (by omega)]; simp [addA]
              · rw [Nat.add_assoc]; exact hc
            · cases hj
          · rw [Cells.part_len]; omega
          · intro k hk
            exact hbl k (hblkd k hk)
          · intro l' e' he' hmine k hk hk'
            rcases hmine with hmine | hmine
            · cases hmine
            · have hA : blkC A' (c' + cs.len) = some k := hblkd k hk
              by_cases hll : l' = l
              · subst hll; rw [hgm] at he'; injection he' with he'; subst he'; cases hmine
              · exact hW.sep l' e' l _ he' hgm hll hmine k hk' hA
          · rw [ev_is hE hx rfl, run_sliceAt_slice (h := by rw [show P.elem t = e from by simp [Program.elem, hu]]; exact hu)]
            unfold Instr.slice
            simp only [AV.conc, Sem.run_bind, run_underlying hu, Result.andThen_ok, Sem.run_pure, hr, (hTT e ie hie).rsize, hes, Nat.mul_one]
        | _ => exact h.elim
  · rename_i l v n
    cases ht : tt t with
    | none => simp [ht] at h
    | some ti =>
      simp only [ht] at h
      cases hd : ti.dsc <;> simp only [hd] at h <;> try exact h.elim
      rename_i e
      have hu : P.underlying t = some (.slice e) := by have := (hTT t ti ht).dsc; rw [hd] at this; exact this
      cases hgm : getA mem l with
      | none => simp [hgm] at h
      | some me =>
        rw [hgm] at h
        cases me with
        | row v' e' cs =>
          obtain ⟨⟨rfl, hlen⟩, hmx, h⟩ := h
          obtain ⟨hv, h, hh⟩ := bnd_ok hE h
          obtain ⟨lv, h, hl⟩ := bnd_ok hE h
          obtain ⟨⟨h1, h2⟩, h5, hK⟩ := h
          obtain ⟨ie, hie, hes⟩ := Option.map_eq_some_iff.1 h5
          have hmn : mx.map a.eval = none := by cases mx <;> simp_all
          by_cases hform : ∃ A c, v' = .slice A n c
          · obtain ⟨A, c, rfl⟩ := hform
            have hblkd : ∀ k, blkC (if c = lv then A else A.map (·.add lv)) (c - lv + (cs.part lv (hv - lv)).len) = some k → blkA A = some k := by
              intro k hk
              replace hk := blkC_A hk
              cases A with
              | none => split at hk <;> exact hk
              | some ad =>
                split at hk
                · exact hk
                · simp only [Option.map_some, blkA] at hk ⊢
                  rw [← hk]; unfold Addr.add; split <;> rfl
            refine ⟨_, _, _, rfl, hK (if c = lv then A else A.map (·.add lv)) (c - lv), fun l2 e2 k he2 hk2 => ?_, fun W hW => ?_⟩
            · simp only [getA] at he2
              split at he2
              · injection he2 with he2; subst he2
                refine ⟨l, _, hgm, ?_⟩
                have := hblkd k hk2
                cases A with
                | none => cases this
                | some ad => exact this
              · rw [getA_delA] at he2
                split at he2
                · cases he2
                · exact ⟨l2, e2, he2, hk2⟩
            obtain ⟨ho, h3⟩ := hW.ok _ _ hgm
            have ho' : W.ownsRow w0.heap.size e' 1 (.slice A n c) cs.len (cs.vals.map id) := by rw [List.map_id]; exact ho
            obtain ⟨A1, c1, heq, hcl, _, hs⟩ := owns_sl ho'
            injection heq with q1 q2 q3
            subst q1; subst q3
            have hbl : ∀ k, blkA A = some k → k < W.heap.size ∧ (w0.heap.size ≤ k ∨ pv k) := fun k hk => by
              have hk' : (ME.row (.slice A n c) e' cs).blk = some k := by
                cases A with
                | none => cases hk
                | some ad => exact hk
              have hme : MEok pv w0 W (.row (.slice A n c) e' cs) := ⟨ho, h3⟩
              exact ⟨hme.blk_lt k hk', hme.prov k hk'⟩
            have hh' : (hi.map a.eval = none ∧ mx.map a.eval = none ∧ hv = n) ∨ ∃ z : Int, hi.map a.eval = some (.int .i64 z) ∧ 0 ≤ z ∧ z.toNat = hv := by
              rcases hh with ⟨p, q⟩ | p
              · exact .inl ⟨p, hmn, q⟩
              · exact .inr p
            have hr := bounds_run (P := P) (W := W) (sl := true) (len := n) (cap := c) (m := c) (lo := lo.map a.eval) (hi := hi.map a.eval) (mx := mx.map a.eval) (.inl ⟨hmn, rfl⟩) (Nat.le_refl _) hh' (by omega) hl h1
            refine ⟨(hW.drop l).add nx _ ⟨⟨?_, fun j v hj => ?_⟩, ?_, fun k hk => hbl k (hblkd k hk)⟩ ?_, ?_⟩
            · rw [Cells.vals_part]
              have := hs.1
              simp only [List.length_take, List.length_drop]; omega
            · rw [Cells.vals_part, List.getElem?_take] at hj
              split at hj
              · rename_i hjl
                rw [List.getElem?_drop] at hj
                obtain ⟨b, o, rfl, hc⟩ := hs.2 (lv + j) v hj
                refine ⟨b, o + lv, ?_, ?_⟩
                · rw [if_neg (by omega)]; simp [addA]
                · rw [Nat.add_assoc]; exact hc
              · cases hj
            · rw [Cells.part_len]; omega
            · intro l2 e2 he2 hmine k hk hk'
              rw [getA_delA] at he2
              split at he2
              · cases he2
              · rename_i hll
                have hA := hblkd k hk
                refine hW.sep l _ l2 e2 hgm he2 (Ne.symm hll) rfl k ?_ hk'
                cases A with
                | none => cases hA
                | some ad => exact hA
            · rw [ev_is hE hx rfl, run_sliceAt_slice (h := by rw [show P.elem t = e from by simp [Program.elem, hu]]; exact hu)]
              unfold Instr.slice
              simp only [AV.conc, Sem.run_bind, run_underlying hu, Result.andThen_ok, Sem.run_pure, hr, (hTT e ie hie).rsize, hes, Nat.mul_one]
          · refine ⟨_, _, _, rfl, hK none 0, fun l2 e2 k he2 hk2 => ?_, fun W hW => ?_⟩
            · simp only [getA] at he2
              split at he2
              · injection he2 with he2; subst he2; cases blkC_A hk2
              · rw [getA_delA] at he2
                split at he2
                · cases he2
                · exact ⟨l2, e2, he2, hk2⟩
            exfalso
            obtain ⟨ho, h3⟩ := hW.ok _ _ hgm
            rcases ho.2 with ⟨rfl, hn⟩ | ⟨g, cap, cur, rfl, _⟩
            · exact hform ⟨none, 0, by rw [← hlen, hn]⟩
            · exact hform ⟨_, _, by rw [← hlen]⟩
        | _ => exact h.elim
theorem isP_under {P : Program} {t : TypeId} {i : TI} (h : TIok P t i) (hp : i.dsc.isP = true) : ∃ e, P.underlying t = some (.pointer e) := by
  have hd := h.dsc
  cases hi : i.dsc <;> rw [hi] at hd hp <;> simp only [TDsc.isP, Bool.false_eq_true] at hp
  · exact ⟨_, hd⟩
  · exact ⟨_, hd.1⟩
theorem eqlNil {P : Program} {tt : TT} (hTT : TTok P tt) {t : TypeId} (ht : (tt t).map (fun i => i.dsc.isP) = some true) (u v : Value) (same : Bool) (op : BinOp) (x y : Operand) (ho : op = .eql ∨ op = .neq)
    (huv : (∃ a, u = .pointer (some a) ∧ v = .pointer none ∧ same = false) ∨ (∃ a, u = .pointer none ∧ v = .pointer (some a) ∧ same = false) ∨ (u = .pointer none ∧ v = .pointer none ∧ same = true)) (W : World) :
    (do eqGuard op t x y u v; binOp op t u v : Sem Value).run P W = .ok (.bool (match op with | .eql => same | _ => !same)) W := by
  obtain ⟨i, hi, hp⟩ := Option.map_eq_some_iff.1 ht
  obtain ⟨e, hu⟩ := isP_under (hTT t i hi) hp
  have hp : ∀ (p q : Option Addr), p = none ∨ q = none → (Op.equal t (.pointer p) (.pointer q)).run P W = .ok (p.isNone && q.isNone) W := fun p q hpq => by
    show (Op.equalIn (9999 + 1) t (.pointer p) (.pointer q)).run P W = _
    rw [Op.equalIn]
    simp only [Sem.run_bind, run_underlying hu, Result.andThen_ok]
    rcases hpq with rfl | rfl
    · simp
    · cases p <;> simp
  have h6 : ∀ op p q, (eqGuard op t x y (.pointer p) (.pointer q)).run P W = .ok () W := fun op p q => by cases op <;> simp [eqGuard]
  rcases huv with ⟨a, rfl, rfl, rfl⟩ | ⟨a, rfl, rfl, rfl⟩ | ⟨rfl, rfl, rfl⟩ <;> rcases ho with rfl | rfl <;> simp [h6, binOp, hp]
theorem pure_ok (hTT : TTok P tt) (hE : ERel ds env a N) {op : Op} (h : pureVC tt env mem nx op K) {o : Oper} (ho : o.op = op) : PureOk P pv w0 mem (execOp a.eval o) K := by
  cases op with
  | move x =>
    simp only [pureVC] at h
    refine same_ok _ h.1 h.2 fun W _ => ?_
    simp only [execOp, ho, Sem.run_pure, ev_is hE rfl h.1]
  | assign x =>
    simp only [pureVC] at h
    refine same_ok _ h.1 h.2 fun W _ => ?_
    simp only [execOp, ho, Sem.run_pure, ev_is hE rfl h.1]
  | makeFunc fn first caps =>
    simp only [pureVC] at h
    split at h
    · rename_i F
      obtain ⟨hf, hg, h⟩ := h
      refine same_ok _ rfl h fun W _ => exec_value (s := Instr.makeFunc (.func F) (first.map a.eval) (caps.map a.eval)) (by simp only [execOp, ho]) ?_
      have h1 : first.map a.eval = #[] := by
        apply Array.ext'
        simp [hf]
      have h2 : caps.map a.eval = (AV.concs (caps.toList.map (ev env))).toArray := by
        apply Array.ext'
        rw [concs_map]
        simp only [Array.toList_map, List.map_map]
        apply List.map_congr_left
        intro z hz
        exact ev_is hE rfl (List.all_eq_true.1 hg _ (List.mem_map_of_mem hz))
      rw [h1, h2]
      rfl
    · exact h.elim
  | makeInterface t x =>
    simp only [pureVC] at h
    cases ht : tt t with
    | none => simp [ht] at h
    | some i =>
      rw [ht] at h
      obtain ⟨hp, hg, h⟩ := h
      refine same_ok _ rfl h fun W _ => exec_value (s := Instr.makeInterface t (a.eval x)) (by simp only [execOp, ho]) ?_
      obtain ⟨e, hu⟩ := isP_under (hTT t i ht) hp
      unfold Instr.makeInterface
      simp only [Sem.run_bind, run_underlying hu, Result.andThen_ok, Sem.run_pure, AV.conc, ev_is hE rfl hg]
  | pick c x y =>
    simp only [pureVC] at h
    cases hc : ev env c <;> simp only [hc] at h <;> try exact h.elim
    rename_i t
    have e0 := ev_is hE hc rfl
    cases t
    · obtain ⟨g2, h2⟩ : (ev env y).good = true ∧ K (ev env y) mem nx := h
      refine same_ok _ g2 h2 fun W _ => ?_
      simp [execOp, ho, e0, AV.conc, asBool, ev_is hE rfl g2]
    · obtain ⟨g1, h1⟩ : (ev env x).good = true ∧ K (ev env x) mem nx := h
      refine same_ok _ g1 h1 fun W _ => ?_
      simp [execOp, ho, e0, AV.conc, asBool, ev_is hE rfl g1]
  | build t ps =>
    obtain ⟨v, h1, h2, h3⟩ := pure_build hTT hE h
    refine same_ok v h1 h2 fun W _ => exec_value (s := Instr.build t (ps.map fun (i, x) => (i, a.eval x))) ?_ (h3 W)
    simp only [execOp, ho]
  | load t x =>
    simp only [pureVC] at h
    cases ht : tt t with
    | none => simp [ht] at h
    | some i =>
      rw [ht] at h
      obtain ⟨u, h1, h2, h3⟩ := load_ok (P := P) (pv := pv) (w0 := w0) hTT ht h
      refine same_ok u h1 h2 fun W hW => exec_value (s := Instr.loadAt t (a.eval x)) ?_ ?_
      · simp only [execOp, ho]
      · have hg : (ev env x).good = true := by
          cases hx : ev env x <;> first | rfl | (rw [hx] at h; exact h.elim)
        rw [ev_is hE rfl hg]; exact h3 W hW
  | nilCheck x =>
    simp only [pureVC] at h
    cases hx : ev env x <;> simp only [hx] at h <;> try exact h.elim
    · have e0 := ev_is hE hx rfl
      refine same_ok _ rfl h fun W _ => ?_
      simp [execOp, ho, e0, AV.conc]
    · have e0 := ev_is hE hx rfl
      refine same_ok _ rfl h.2 fun W _ => ?_
      rename_i l A i
      obtain ⟨b, rfl⟩ := Option.isSome_iff_exists.1 h.1
      simp [execOp, ho, e0, AV.conc]
  | binOp bop t x y t2 =>
    have hexec : execOp a.eval o = (do pure (Next.value (← (do eqGuard bop t x y (a.eval x) (a.eval y); binOp bop t (a.eval x) (a.eval y) : Sem Value)))) := by simp only [execOp, ho]
    have gen : ∀ u v, ev env x = u → ev env y = v → u.good = true → v.good = true → binT (wrapT (tt t)) bop u v (fun v => K v mem nx) → PureOk P pv w0 mem (execOp a.eval o) K := by
      intro u v hu hv g1 g2 h
      obtain ⟨r, h1, h2, h3, h4⟩ := binT_ok h
      refine same_ok r h1 h2 fun W _ => exec_value hexec ?_
      rw [ev_is hE hu g1, ev_is hE hv g2]
      simp only [Sem.run_bind, h4 P t W x y, Result.andThen_ok, h3 P t W]
    simp only [pureVC] at h
    split at h
    · rename_i xs ys hx hy
      split at h
      · rename_i i ht
        split at h
        · rename_i n e hd
          obtain ⟨⟨he, hxn, hyn⟩, h⟩ := h
          have hr := fun op ho W => eqlArr (P := P) (f := v8) (fun _ => rfl) (fun _ _ => i8_inj.1) hTT ht hd he xs ys hxn hyn op x y ho W
          have e1 := ev_is hE hx rfl
          have e2 := ev_is hE hy rfl
          split at h
          · exact same_ok _ rfl h fun W _ => exec_value hexec (by rw [e1, e2]; exact hr .eql (.inl rfl) W)
          · exact same_ok _ rfl h fun W _ => exec_value hexec (by rw [e1, e2]; exact hr .neq (.inr rfl) W)
          · exact h.elim
        · exact h.elim
      · exact h.elim
    · rename_i xs ys hx hy
      split at h
      · rename_i i ht
        split at h
        · rename_i n e hd
          obtain ⟨⟨he, hxn, hyn⟩, h⟩ := h
          have hr := fun op ho W => eqlArr (P := P) (f := v32) (fun _ => rfl) (fun _ _ => i32_inj.1) hTT ht hd he xs ys hxn hyn op x y ho W
          have e1 := ev_is hE hx rfl
          have e2 := ev_is hE hy rfl
          split at h
          · exact same_ok _ rfl h fun W _ => exec_value hexec (by rw [e1, e2]; exact hr .eql (.inl rfl) W)
          · exact same_ok _ rfl h fun W _ => exec_value hexec (by rw [e1, e2]; exact hr .neq (.inr rfl) W)
          · exact h.elim
        · exact h.elim
      · exact h.elim
    · rename_i xs ys hx hy
      split at h
      · rename_i i ht
        split at h
        · rename_i n e hd
          obtain ⟨⟨he, hxn, hyn⟩, h⟩ := h
          have hr := fun op ho W => eqlArr (P := P) (f := v64) (fun _ => rfl) (fun _ _ => i64_inj.1) hTT ht hd he xs ys hxn hyn op x y ho W
          have e1 := ev_is hE hx rfl
          have e2 := ev_is hE hy rfl
          split at h
          · exact same_ok _ rfl h fun W _ => exec_value hexec (by rw [e1, e2]; exact hr .eql (.inl rfl) W)
          · exact same_ok _ rfl h fun W _ => exec_value hexec (by rw [e1, e2]; exact hr .neq (.inr rfl) W)
          · exact h.elim
        · rename_i fs hd
          obtain ⟨⟨hs, hyn, hB⟩, h⟩ := h
          have hr := fun op ho W => eqlStr (P := P) hTT ht hd xs ys hs hyn hB op x y ho W
          have e1 := ev_is hE hx rfl
          have e2 := ev_is hE hy rfl
          split at h
          · exact same_ok _ rfl h fun W _ => exec_value hexec (by rw [e1, e2]; exact hr .eql (.inl rfl) W)
          · exact same_ok _ rfl h fun W _ => exec_value hexec (by rw [e1, e2]; exact hr .neq (.inr rfl) W)
          · exact h.elim
        · exact h.elim
      · exact h.elim
    · rename_i p q hx hy
      obtain ⟨he, h⟩ := h
      have hr := fun op ho W => eqlBool (P := P) hTT he p q op x y ho W
      have e1 := ev_is hE hx rfl
      have e2 := ev_is hE hy rfl
      split at h
      · exact same_ok _ rfl h fun W _ => exec_value hexec (by rw [e1, e2]; exact hr .eql (.inl rfl) W)
      · exact same_ok _ rfl h fun W _ => exec_value hexec (by rw [e1, e2]; exact hr .neq (.inr rfl) W)
      · exact h.elim
    · rename_i l g j hx hy
      obtain ⟨ht, h⟩ := h
      have e1 := ev_is hE hx rfl
      have e2 := ev_is hE hy rfl
      have hr := fun op ho W => eqlNil (P := P) hTT ht (.pointer (some ⟨g, j, none⟩)) (.pointer none) false op x y ho (.inl ⟨_, rfl, rfl, rfl⟩) W
      split at h
      · exact same_ok _ rfl h fun W _ => exec_value hexec (by rw [e1, e2]; exact hr .eql (.inl rfl) W)
      · exact same_ok _ rfl h fun W _ => exec_value hexec (by rw [e1, e2]; exact hr .neq (.inr rfl) W)
      · exact h.elim
    · rename_i l g j hx hy
      obtain ⟨ht, h⟩ := h
      have e1 := ev_is hE hx rfl
      have e2 := ev_is hE hy rfl
      have hr := fun op ho W => eqlNil (P := P) hTT ht (.pointer none) (.pointer (some ⟨g, j, none⟩)) false op x y ho (.inr (.inl ⟨_, rfl, rfl, rfl⟩)) W
      split at h
      · exact same_ok _ rfl h fun W _ => exec_value hexec (by rw [e1, e2]; exact hr .eql (.inl rfl) W)
      · exact same_ok _ rfl h fun W _ => exec_value hexec (by rw [e1, e2]; exact hr .neq (.inr rfl) W)
      · exact h.elim
    · rename_i hx hy
      obtain ⟨ht, h⟩ := h
      have e1 := ev_is hE hx rfl
      have e2 := ev_is hE hy rfl
      have hr := fun op ho W => eqlNil (P := P) hTT ht (.pointer none) (.pointer none) true op x y ho (.inr (.inr ⟨rfl, rfl, rfl⟩)) W
      split at h
      · exact same_ok _ rfl h fun W _ => exec_value hexec (by rw [e1, e2]; exact hr .eql (.inl rfl) W)
      · exact same_ok _ rfl h fun W _ => exec_value hexec (by rw [e1, e2]; exact hr .neq (.inr rfl) W)
      · exact h.elim
    · have hgood : (ev env x).good = true ∧ (ev env y).good = true := by
        refine ⟨?_, ?_⟩
        · cases hx : ev env x <;> first | rfl | (exfalso; rw [hx] at h; cases hw : wrapT (tt t) <;> rw [hw] at h <;> cases hy : ev env y <;> rw [hy] at h <;> simp [binT, binW, binVC, shVC] at h)
        · cases hy : ev env y <;> first | rfl | (exfalso; rw [hy] at h; cases hw : wrapT (tt t) <;> rw [hw] at h <;> cases hx : ev env x <;> rw [hx] at h <;> simp [binT, binW, binVC] at h)
      exact gen _ _ rfl rfl hgood.1 hgood.2 h
  | unOp op t x =>
    simp only [pureVC] at h
    have hg : (ev env x).good = true := by
      cases hx : ev env x <;> first | rfl | (rw [hx] at h; cases op <;> simp [unVC] at h)
    obtain ⟨v, h1, h2, h3⟩ := unVC_ok h
    refine same_ok v h1 h2 fun W _ => exec_value (s := Op.unary op (a.eval x)) (by simp only [execOp, ho]) ?_
    rw [ev_is hE rfl hg]; exact h3 P W
  | convert s d x =>
    simp only [pureVC] at h
    cases hs : tt s with
    | none => simp [hs] at h
    | some si =>
      cases hd : tt d with
      | none => simp [hs, hd] at h
      | some di =>
        simp only [hs, hd] at h
        have hsi := hTT s si hs
        have hdi := hTT d di hd
        have hexec : execOp a.eval o = (do pure (Next.value (← convert s d (a.eval x)))) := by simp only [execOp, ho]
        split at h
        · rename_i k1 k2 e1 e2
          have hu1 : P.underlying s = some (.int k1) := by have := hsi.dsc; rw [e1] at this; exact this
          have hu2 : P.underlying d = some (.int k2) := by have := hdi.dsc; rw [e2] at this; exact this
          have hg : (ev env x).good = true := by
            cases hx : ev env x <;> first | rfl | (rw [hx] at h; cases k2 <;> simp [cvVC] at h)
          obtain ⟨v, h1, h2, k0, n, h3, h4⟩ := cvVC_ok h
          refine same_ok v h1 h2 fun W _ => exec_value hexec ?_
          rw [ev_is hE rfl hg, h3, h4]
          unfold convert
          simp only [Sem.run_bind, run_underlying hu1, run_underlying hu2, Result.andThen_ok, Conv.intToInt, Sem.run_pure]
        · rename_i e e1 e2
          obtain ⟨he, h⟩ := h
          obtain ⟨ie, hie, hde⟩ := Option.map_eq_some_iff.1 he
          have hu1 : P.underlying s = some (.slice e) := by have := hsi.dsc; rw [e1] at this; exact this
          have hu2 : P.underlying d = some .string := by have := hdi.dsc; rw [e2] at this; exact this
          have hu3 : P.underlying e = some (.int .u8) := by have := (hTT e ie hie).dsc; rw [hde] at this; exact this
          obtain ⟨cs, hK, hg, hr⟩ := rd_run (pv := pv) (w0 := w0) h
          cases cs with
          | c8 bs =>
            refine same_ok (.str bs) rfl hK fun W hW => exec_value hexec ?_
            obtain ⟨A, c, h1, _, h2, _⟩ := hr W hW
            rw [ev_is hE rfl hg, h1]
            refine run_bytes_str (bs := bs) ⟨by have := h2.1; simpa [Cells.vals] using this, fun i y hy => ?_⟩ s d e c hu1 hu3 hu2
            exact h2.2 i (v8 y) (by simp [Cells.vals, hy])
          | _ => exact hK.elim
        · exact h.elim
  | sliceToArrayPointer t x =>
    simp only [pureVC] at h
    cases ht : tt t with
    | none => simp [ht] at h
    | some i =>
      simp only [ht] at h
      have hexec : execOp a.eval o = (do pure (Next.value (← Instr.arrayAt t (a.eval x)))) := by simp only [execOp, ho]
      cases hd : i.dsc <;> simp only [hd] at h <;> try exact h.elim
      rename_i n e
      have hu : P.underlying t = some (.array n e) := by have := (hTT t i ht).dsc; rw [hd] at this; exact this
      cases hx : ev env x <;> simp only [hx] at h <;> try exact h.elim
      · have e0 := ev_is hE hx rfl
        refine same_ok _ rfl h.2 fun W _ => exec_value hexec ?_
        rw [e0]
        exact run_arrayAt t e n _ _ _ hu h.1 W
      · rename_i l A m c
        cases hg : getA mem l with
        | none => simp [hg] at h
        | some me =>
          rw [hg] at h
          cases me with
          | ro A' c' cs =>
            obtain ⟨⟨rfl, hm, hn, h0⟩, hK⟩ := h
            have e0 := ev_is hE hx rfl
            refine same_ok _ rfl hK fun W hW => exec_value hexec ?_
            obtain ⟨h1, _, _⟩ := hW.ok _ _ hg
            obtain ⟨b, o, rfl, _⟩ := h1.all (by rw [Cells.vals_length]; omega)
            rw [e0]
            have := run_arrayAt (P := P) t e n ⟨b, o, none⟩ m c hu hn W
            simp only [AV.conc, Option.map_some, addA, Nat.add_zero]
            exact this
          | _ => exact h.elim
  | fieldAddr t x f =>
    simp only [pureVC] at h
    cases ht : tt t with
    | none => simp [ht] at h
    | some i =>
      simp only [ht] at h
      have hexec : execOp a.eval o = (do pure (Next.value (← Instr.fieldAt t (a.eval x) f))) := by simp only [execOp, ho]
      cases hd : i.dsc <;> simp only [hd] at h <;> try exact h.elim
      rename_i fs
      have hu : (TDsc.struct fs).ok P t := by have := (hTT t i ht).dsc; rwa [hd] at this
      obtain ⟨gs, hu, hgs, hpl, -⟩ := hu
      cases hf : fs[f]? with
      | none => simp [hf] at h
      | some q =>
        obtain ⟨o1, ft, sz⟩ := q
        simp only [hf] at h
        have hgf : ∃ g, gs[f]? = some g ∧ g.offset = o1 ∧ g.type = ft := by
          have := congrArg (·[f]?) hgs
          simp only [List.getElem?_map, Array.getElem?_toList, hf, Option.map_some] at this
          obtain ⟨g, hg1, hg2⟩ := Option.map_eq_some_iff.1 this
          simp only [Prod.mk.injEq] at hg2
          exact ⟨g, hg1, hg2.1, hg2.2⟩
        obtain ⟨fd, hfd, ho1, hft⟩ := hgf
        cases hx : ev env x <;> simp only [hx] at h <;> try exact h.elim
        obtain ⟨h1, h2, hK⟩ := h
        obtain ⟨fi, hfi, hfs⟩ := Option.map_eq_some_iff.1 h1
        have e0 := ev_is hE hx rfl
        refine same_ok _ rfl hK fun W _ => exec_value hexec ?_
        rw [e0]
        unfold Instr.fieldAt
        simp only [Sem.run_bind, run_underlying hu, Result.andThen_ok, hfd, AV.conc, Instr.sureAddr, Sem.run_pure]
        unfold fieldPlace
        have hsz := (hTT ft fi hfi).rsize W
        rw [← hft] at hsz
        simp only [Sem.run_bind, hsz, Result.andThen_ok, hfs, h2, if_false, Sem.run_pure, addA, ho1]
  | field t x f =>
    simp only [pureVC] at h
    cases ht : tt t with
    | none => simp [ht] at h
    | some i =>
      simp only [ht] at h
      have hexec : execOp a.eval o = (do pure (Next.value (← Instr.field t (a.eval x) f))) := by simp only [execOp, ho]
      cases hd : i.dsc <;> simp only [hd] at h <;> try exact h.elim
      rename_i fs
      have hu : (TDsc.struct fs).ok P t := by have := (hTT t i ht).dsc; rwa [hd] at this
      obtain ⟨gs, hu, hgs, hpl, -⟩ := hu
      cases hf : fs[f]? with
      | none => simp [hf] at h
      | some q =>
        obtain ⟨o1, ft, sz⟩ := q
        simp only [hf] at h
        have hgf : ∃ g, gs[f]? = some g ∧ g.offset = o1 ∧ g.type = ft := by
          have := congrArg (·[f]?) hgs
          simp only [List.getElem?_map, Array.getElem?_toList, hf, Option.map_some] at this
          obtain ⟨g, hg1, hg2⟩ := Option.map_eq_some_iff.1 this
          simp only [Prod.mk.injEq] at hg2
          exact ⟨g, hg1, hg2.1, hg2.2⟩
        obtain ⟨fd, hfd, ho1, hft⟩ := hgf
        cases hfi : tt ft with
        | none => simp [hfi] at h
        | some fi =>
          simp only [hfi] at h
          have gen : ∀ cs : Cells, a.eval x = .agg cs.vals.toArray → pickC fi cs o1 (fun v => K v mem nx) → PureOk P pv w0 mem (execOp a.eval o) K := by
            intro cs e0 hp
            have hp' := hp
            unfold pickC at hp'
            by_cases ha : fi.dsc.agg = true
            · rw [if_pos ha] at hp'
              refine same_ok _ (Cells.sub_good _ _ _) hp'.2 fun W _ => exec_value hexec ?_
              obtain ⟨v, _, hv, hr⟩ := part_run (P := P) (W := W) (hTT ft fi hfi) (K := fun v => v = cs.sub o1 fi.size) (cs := cs) (off := o1) (by unfold pickC; rw [if_pos ha]; exact ⟨hp'.1, rfl⟩)
              subst hv
              rw [e0]
              unfold Instr.field
              simp only [Sem.run_bind, run_underlying hu, Result.andThen_ok, hfd, asAgg, Sem.run_pure, ho1, hft, hr]
            · rw [if_neg ha] at hp'
              refine same_ok _ hp'.2.1 hp'.2.2 fun W _ => exec_value hexec ?_
              obtain ⟨v, _, hv, hr⟩ := part_run (P := P) (W := W) (hTT ft fi hfi) (K := fun v => v = cs.get o1) (cs := cs) (off := o1) (by unfold pickC; rw [if_neg ha]; exact ⟨hp'.1, hp'.2.1, rfl⟩)
              subst hv
              rw [e0]
              unfold Instr.field
              simp only [Sem.run_bind, run_underlying hu, Result.andThen_ok, hfd, asAgg, Sem.run_pure, ho1, hft, hr]
          cases hx : ev env x <;> simp only [hx] at h <;> try exact h.elim
          · exact gen (.c64 _) (by rw [ev_is hE hx rfl]; rfl) h
          · exact gen (.cv _) (by rw [ev_is hE hx rfl]; simp [AV.conc, Cells.vals, concs_map]) h
  | indexAddr t x ix =>
    simp only [pureVC] at h
    have hexec : execOp a.eval o = (do pure (Next.value (← Instr.indexAt t (a.eval x) (a.eval ix)))) := by simp only [execOp, ho]
    cases ht : tt t with
    | none => simp [ht] at h
    | some i =>
      cases hix : ev env ix <;> simp only [ht, hix] at h <;> try exact h.elim
      rename_i n
      have ei := ev_is hE hix rfl
      cases hd : i.dsc <;> simp only [hd] at h <;> try exact h.elim
      · rename_i m e
        have hu : P.underlying t = some (.array m e) := by have := (hTT t i ht).dsc; rw [hd] at this; exact this
        cases hx : ev env x <;> simp only [hx] at h <;> try exact h.elim
        obtain ⟨h1, ⟨h2, h3⟩, hK⟩ := h
        obtain ⟨ei', hei, hes⟩ := Option.map_eq_some_iff.1 h1
        have ex := ev_is hE hx rfl
        refine same_ok _ rfl hK fun W _ => exec_value hexec ?_
        rw [ex, ei]
        unfold Instr.indexAt
        simp only [AV.conc, asIntOf, Sem.run_bind, Sem.run_pure, Result.andThen_ok, run_underlying hu, Instr.sureAddr, h2, h3, and_self, if_true, (hTT e ei' hei).rsize, hes, Nat.mul_one, addA]
      · rename_i e
        have hu : P.underlying t = some (.slice e) := by have := (hTT t i ht).dsc; rw [hd] at this; exact this
        cases hx : ev env x <;> simp only [hx] at h <;> try exact h.elim
        · obtain ⟨h1, ⟨h2, h3⟩, hK⟩ := h
          obtain ⟨ei', hei, hes⟩ := Option.map_eq_some_iff.1 h1
          have ex := ev_is hE hx rfl
          refine same_ok _ rfl hK fun W _ => exec_value hexec ?_
          rw [ex, ei]
          unfold Instr.indexAt
          simp only [AV.conc, asIntOf, Sem.run_bind, Sem.run_pure, Result.andThen_ok, run_underlying hu, Instr.sureAddr, h2, h3, and_self, if_true, (hTT e ei' hei).rsize, hes, Nat.mul_one, addA]
        · rename_i l A len c
          obtain ⟨h1, ⟨h2, h3⟩, h⟩ := h
          obtain ⟨ei', hei, hes⟩ := Option.map_eq_some_iff.1 h1
          have ex := ev_is hE hx rfl
          cases hg : getA mem l with
          | none => simp [hg] at h
          | some me =>
            rw [hg] at h
            cases me with
            | ro A' c' cs =>
              obtain ⟨⟨rfl, _, hl⟩, hK⟩ := h
              refine same_ok _ rfl hK fun W hW => exec_value hexec ?_
              obtain ⟨h4, _, _⟩ := hW.ok _ _ hg
              obtain ⟨b, o, rfl, _⟩ := h4.all (by rw [Cells.vals_length]; omega)
              rw [ex, ei]
              unfold Instr.indexAt
              simp only [AV.conc, asIntOf, Sem.run_bind, Sem.run_pure, Result.andThen_ok, run_underlying hu, Instr.sureAddr, h2, h3, and_self, if_true, (hTT e ei' hei).rsize, hes, Nat.mul_one, addA, Option.map_some]
            | _ => exact h.elim
        · rename_i l v len
          obtain ⟨h1, ⟨h2, h3⟩, h⟩ := h
          obtain ⟨ei', hei, hes⟩ := Option.map_eq_some_iff.1 h1
          have ex := ev_is hE hx rfl
          cases hg : getA mem l with
          | none => simp [hg] at h
          | some me =>
            rw [hg] at h
            cases me with
            | row v' e' cs =>
              obtain ⟨⟨rfl, hl⟩, hK⟩ := h
              refine same_ok _ rfl hK fun W hW => exec_value hexec ?_
              obtain ⟨h4, _⟩ := hW.ok _ _ hg
              rcases h4.2 with ⟨rfl, hn⟩ | ⟨g, cap, cur, rfl, _⟩
              · omega
              · rw [ex, ei]
                unfold Instr.indexAt
                simp only [AV.conc, baseV, asIntOf, Sem.run_bind, Sem.run_pure, Result.andThen_ok, run_underlying hu, Instr.sureAddr, h2, hl, h3, and_self, if_true, (hTT e ei' hei).rsize, hes, Nat.mul_one, addA, Option.map_some]
            | _ => exact h.elim
  | index t x ix =>
    simp only [pureVC] at h
    have hexec : execOp a.eval o = (do pure (Next.value (← Instr.index t (a.eval x) (a.eval ix)))) := by simp only [execOp, ho]
    cases ht : tt t with
    | none => simp [ht] at h
    | some i =>
      cases hix : ev env ix <;> simp only [ht, hix] at h <;> try exact h.elim
      rename_i n
      have ei := ev_is hE hix rfl
      cases hd : i.dsc <;> simp only [hd] at h <;> try exact h.elim
      rename_i m e
      have hu : P.underlying t = some (.array m e) := by have := (hTT t i ht).dsc; rw [hd] at this; exact this
      obtain ⟨h1, h1', ⟨h2, h3⟩, h⟩ := h
      obtain ⟨ie, hei, hes⟩ := Option.map_eq_some_iff.1 h1
      have hag : ie.dsc.agg = false := by rw [hei] at h1'; simpa using h1'
      have gen : ∀ cs : Cells, a.eval x = .agg cs.vals.toArray → n.toNat < cs.len → (cs.get n.toNat).good = true → K (cs.get n.toNat) mem nx → PureOk P pv w0 mem (execOp a.eval o) K := by
        intro cs e0 hlt hgd hK
        refine same_ok _ hgd hK fun W _ => exec_value hexec ?_
        obtain ⟨v, _, hv, hr⟩ := part_run (P := P) (W := W) (hTT e ie hei) (K := fun v => v = cs.get n.toNat) (cs := cs) (off := n.toNat) (by unfold pickC; rw [if_neg (by simp [hag])]; exact ⟨hlt, hgd, rfl⟩)
        subst hv
        rw [e0, ei]
        unfold Instr.index
        simp only [AV.conc, asIntOf, Sem.run_bind, Sem.run_pure, Result.andThen_ok, run_underlying hu, h2, h3, and_self, if_true, (hTT e ie hei).rsize, hes, Nat.mul_one, hr]
      cases hx : ev env x <;> simp only [hx] at h <;> try exact h.elim
      · exact gen (.c8 _) (by rw [ev_is hE hx rfl]; rfl) h.1 rfl h.2
      · exact gen (.c32 _) (by rw [ev_is hE hx rfl]; rfl) h.1 rfl h.2
      · exact gen (.c64 _) (by rw [ev_is hE hx rfl]; rfl) h.1 rfl h.2
  | extract x i =>
    simp only [pureVC] at h
    have hexec : execOp a.eval o = (do pure (Next.value (← Instr.extract (a.eval x) i))) := by simp only [execOp, ho]
    cases hx : ev env x <;> simp only [hx] at h <;> try exact h.elim
    rename_i xs
    cases hv : xs[i]? with
    | none => simp [hv] at h
    | some v =>
      simp only [hv] at h
      refine same_ok _ h.1 h.2 fun W _ => exec_value hexec ?_
      rw [ev_is hE hx rfl]
      unfold Instr.extract
      simp [AV.conc, concs_map, hv]
  | slice t x lo hi mx =>
    simp only [pureVC] at h
    have hexec : execOp a.eval o = (do pure (Next.value (← Instr.sliceAt t (a.eval x) (lo.map a.eval) (hi.map a.eval) (mx.map a.eval)))) := by simp only [execOp, ho]
    obtain ⟨v, m, n, h1, h2, hnn, h3⟩ := pure_slice (P := P) (pv := pv) (w0 := w0) hTT hE h
    exact ⟨v, m, n, h1, h2, hnn, fun W hW => ⟨(h3 W hW).1, exec_value hexec (h3 W hW).2⟩⟩
  | call c =>
    obtain ⟨callee, args, argTypes⟩ := c
    simp only [pureVC] at h
    cases callee with
    | builtin b =>
      simp only at h
      obtain ⟨cons, hexec⟩ : ∃ cons, execOp a.eval o = builtin b argTypes o.type cons (args.map a.eval) := by
        simp only [execOp, ho, resolve, invoke, pure_bind]
        exact ⟨_, rfl⟩
      obtain ⟨args⟩ := args
      obtain ⟨argTypes⟩ := argTypes
      simp only at h
      have one : ∀ {l : List Operand} {v : AV}, l.map (ev env) = [v] → ∃ x, l = [x] ∧ ev env x = v := by
        intro l v hl
        match l, hl with
        | [x], hl => exact ⟨x, rfl, by simpa using hl⟩
      have two : ∀ {l : List Operand} {u v : AV}, l.map (ev env) = [u, v] → ∃ x y, l = [x, y] ∧ ev env x = u ∧ ev env y = v := by
        intro l u v hl
        match l, hl with
        | [x, y], hl => exact ⟨x, y, rfl, by simpa using hl⟩
      unfold bltVC at h
      split at h
      · rename_i xv t hargs
        obtain ⟨xo, rfl, hxo⟩ := one hargs
        cases ht : tt t with
        | none => simp [ht] at h
        | some i =>
          simp only [ht] at h
          have fin : ∀ (n : Nat), K (.int n) mem nx → (∀ W, MRel pv w0 mem W → (Builtin.len_ #[t] o.type #[a.eval xo]).run P W = .ok (.int .i64 n) W) → PureOk P pv w0 mem (execOp a.eval o) K := by
            intro n hK hr
            refine same_ok (.int n) rfl hK fun W hW => ?_
            rw [hexec]
            unfold builtin
            refine run_value ?_
            rw [List.map_toArray]
            exact hr W hW
          split at h
          · rename_i e l A n c hd
            have hu : P.underlying t = some (.slice e) := by have := (hTT t i ht).dsc; rw [hd] at this; exact this
            refine fin _ h fun W hW => ?_
            rw [ev_is hE hxo rfl]
            simp [Builtin.len_, run_underlying hu, AV.conc, goInt]
          · rename_i e l g off n c hd
            have hu : P.underlying t = some (.slice e) := by have := (hTT t i ht).dsc; rw [hd] at this; exact this
            refine fin _ h fun W hW => ?_
            rw [ev_is hE hxo rfl]
            simp [Builtin.len_, run_underlying hu, AV.conc, goInt]
          · rename_i e l v n hd
            have hu : P.underlying t = some (.slice e) := by have := (hTT t i ht).dsc; rw [hd] at this; exact this
            cases hgm : getA mem l with
            | none => simp [hgm] at h
            | some me =>
              rw [hgm] at h
              cases me with
              | row v' e' cs =>
                obtain ⟨⟨rfl, hlen⟩, hK⟩ := h
                refine fin _ hK fun W hW => ?_
                obtain ⟨ho', _⟩ := hW.ok _ _ hgm
                rw [ev_is hE hxo rfl]
                rcases ho'.2 with ⟨rfl, hn⟩ | ⟨g, cap, cur, rfl, _⟩
                · simp [Builtin.len_, run_underlying hu, AV.conc, goInt]; omega
                · simp [Builtin.len_, run_underlying hu, AV.conc, goInt]; omega
              | _ => exact h.elim
          · rename_i e hd
            have hu : P.underlying t = some (.slice e) := by have := (hTT t i ht).dsc; rw [hd] at this; exact this
            refine fin 0 h fun W hW => ?_
            rw [ev_is hE hxo rfl]
            simp [Builtin.len_, run_underlying hu, AV.conc, goInt]
          · rename_i n e hd
            have hu : P.underlying t = some (.array n e) := by have := (hTT t i ht).dsc; rw [hd] at this; exact this
            refine fin _ h fun W hW => ?_
            simp [Builtin.len_, run_underlying hu, goInt]
          · exact h.elim
      · rename_i x y hargs
        obtain ⟨xo, yo, rfl, hxo, hyo⟩ := two hargs
        refine same_ok _ rfl h fun W hW => ?_
        rw [hexec]
        unfold builtin
        refine run_value ?_
        simp [ev_is hE hxo rfl, ev_is hE hyo rfl, Builtin.max_, Builtin.max2, AV.conc, gt_iff_lt]
      · rename_i x y hargs
        obtain ⟨xo, yo, rfl, hxo, hyo⟩ := two hargs
        refine same_ok _ rfl h fun W hW => ?_
        rw [hexec]
        unfold builtin
        refine run_value ?_
        simp [ev_is hE hxo rfl, ev_is hE hyo rfl, Builtin.min_, Builtin.min2, AV.conc]
      · rename_i x y hargs
        obtain ⟨xo, yo, rfl, hxo, hyo⟩ := two hargs
        refine same_ok _ rfl h fun W hW => ?_
        rw [hexec]
        unfold builtin
        refine run_value ?_
        simp only [List.map_toArray, List.map_cons, List.map_nil, ev_is hE hxo rfl, ev_is hE hyo rfl, Builtin.min_, Builtin.min2, AV.conc, List.foldlM_cons, List.foldlM_nil, i64_lt]
        split <;> simp [AV.conc]
      · exact h.elim
    | _ => exact h.elim
  | _ => exact h.elim
end
end Go.Proofs.Ytlcaobnojbkmbaa
/- What is owed for each operation, told without a world: operations that make or write memory, calls. For any program. -/
namespace Go.Proofs.Ytlcaobnojbkmbaa
open Go Go.RowKit
set_option linter.unusedVariables false
set_option linter.unusedSimpArgs false

/-! ### Contracts -/
/-- What comes in: a value, or a slice by what it holds. -/
inductive CA where
  | v (a : AV) | s (cs : Cells) | p (cs : Cells)
/-- What goes out: a value, a slice of memory that was made, a slice of such memory or of what came in. -/
inductive CR1 where
  | v (a : AV) | s (cs : Cells) | al (cs : Cells)
inductive CR where
  | one (r : CR1) | tup (rs : List CR1)
abbrev CT := List CA → (CR → Prop) → Prop
def argOk (W : World) : CA → Value → Prop
  | .v a, V => a.good = true ∧ V = a.conc
  | .s cs, V => ∃ A c, V = .slice A cs.len c ∧ cs.len ≤ c ∧ Sl id W A cs.vals ∧ ∀ k, blkC A c = some k → k < W.heap.size
  | .p cs, V => ∃ a, V = .pointer (some a) ∧ 0 < cs.len ∧ Sl id W (some a) cs.vals ∧ a.block < W.heap.size
def argsOk (W : World) : List CA → List Value → Prop
  | [], [] => True
  | c :: cs, V :: Vs => argOk W c V ∧ argsOk W cs Vs
  | _, _ => False
def resOk1 (vals : List Value) (W W' : World) : CR1 → Value → Prop
  | .v a, V => a.good = true ∧ V = a.conc
  | .s cs, V => ∃ A c, V = .slice A cs.len c ∧ cs.len ≤ c ∧ Sl id W' A cs.vals ∧ ∀ k, blkC A c = some k → W.heap.size ≤ k ∧ k < W'.heap.size
  | .al cs, V => ∃ A c, V = .slice A cs.len c ∧ cs.len ≤ c ∧ Sl id W' A cs.vals ∧ ∀ k, blkC A c = some k → (W.heap.size ≤ k ∨ ∃ u ∈ vals, blkW u = some k) ∧ k < W'.heap.size
def ressOk (vals : List Value) (W W' : World) : List CR1 → List Value → Prop
  | [], [] => True
  | c :: cs, V :: Vs => resOk1 vals W W' c V ∧ ressOk vals W W' cs Vs
  | _, _ => False
def resOk (vals : List Value) (W W' : World) : CR → Value → Prop
  | .one r, V => resOk1 vals W W' r V
  | .tup rs, V => ∃ Vs, V = .tuple Vs.toArray ∧ ressOk vals W W' rs Vs
/-- There is such a function, and it has a body. -/
def Callable (P : Program) (F : FuncId) : Prop := ∃ fn, P.funcs[F]? = some fn ∧ (fn.name == "runtime.NumGoroutine") = false ∧ fn.body.isNone = false
/-- What a function's contract says. -/
def Sound (P : Program) (F : FuncId) (ct : CT) : Prop :=
  ∀ cas K W vals, argsOk W cas vals → ct cas K → Callable P F ∧ Calls P F vals.toArray W fun e W' => ∃ r V, e = .returned V ∧ resOk vals W W' r V ∧ Below W.heap.size W W' ∧ K r
/-- A function without a body, whose value hangs on no world. -/
abbrev XF := List AV → (AV → Prop) → Prop
def XSound (P : Program) (F : FuncId) (x : XF) : Prop := ∀ vs K, x vs K → ∃ v, v.good = true ∧ K v ∧ (∀ u ∈ vs, u.good = true) ∧ ∀ W, (callFunc F (vs.map AV.conc).toArray).run P W = .ok (.value v.conc) W
/-- What comes behind an operation. -/
abbrev KOp := AV → Mem → Nat → Prop
/-- A function that writes into what it is handed: what is owed, told in the caller's memory. -/
abbrev MT := List AV → Mem → Nat → KOp → Prop
def MSound (P : Program) (F : FuncId) (c : MT) : Prop :=
  ∀ (pv : Nat → Prop) (w0 W : World) (args : List AV) (mem : Mem) (nx : Nat) (K : KOp), c args mem nx K → MRel pv w0 mem W →
    (∀ v ∈ args, v.good = true) ∧ Callable P F ∧ Calls P F (args.map AV.conc).toArray W fun e W' => ∃ v m n, e = .returned v.conc ∧ v.good = true ∧ MRel pv w0 m W' ∧ K v m n
/-- A function without a body that makes memory. -/
def XMSound (P : Program) (F : FuncId) (c : MT) : Prop :=
  ∀ (pv : Nat → Prop) (w0 W : World) (args : List AV) (mem : Mem) (nx : Nat) (K : KOp), c args mem nx K → MRel pv w0 mem W →
    (∀ v ∈ args, v.good = true) ∧ ∃ v m n W', (callFunc F (args.map AV.conc).toArray).run P W = .ok (.value v.conc) W' ∧ v.good = true ∧ MRel pv w0 m W' ∧ K v m n
inductive CTE where
  | fn (c : CT) | ext (x : XF) | mem (c : MT) | xmem (c : MT)
abbrev CTab := FuncId → CTE
def CTE.ok (P : Program) (F : FuncId) : CTE → Prop
  | .fn c => Sound P F c
  | .ext x => XSound P F x
  | .mem c => MSound P F c
  | .xmem c => XMSound P F c
def CTok (P : Program) (ct : CTab) : Prop := ∀ F, (ct F).ok P F
def noCT : CT := fun _ _ => False
theorem sound_none (P : Program) (F : FuncId) : Sound P F noCT := fun _ _ _ _ _ h => h.elim

/-! ### What is owed -/
def zOf (tt : TT) (t : TypeId) : Cells :=
  match tt t with
  | some i => (match i.dsc with
    | .slice e => (match tt e with
      | some ie => ie.zero
      | none => .cv [])
    | _ => .cv [])
  | none => .cv []
def AV.isSl : AV → Bool
  | .nils | .ros .. | .slc .. | .grow .. => true
  | _ => false
def AV.plain : AV → Bool
  | .bad | .raw _ | .nils | .ros .. | .slc .. | .grow .. | .ptr .. | .rptr .. | .fnv .. | .ifc .. => false
  | _ => true
/-- Is it a place that is only read? -/
def AV.isRp : AV → Bool
  | .rptr _ _ 0 => true
  | _ => false
def rpVC (mem : Mem) (v : AV) (K : Cells → Prop) : Prop :=
  match v with
  | .rptr l A 0 => (match getA mem l with
    | some (.ro A' c cs) => (A' = A ∧ 0 < cs.len) ∧ K cs
    | _ => False)
  | _ => False
def argVC (tt : TT) (mem : Mem) (v : AV) (t : TypeId) (K : CA → Prop) : Prop :=
  if v.isSl then rdVC mem (zOf tt t) v fun cs => K (.s cs) else if v.isRp then rpVC mem v fun cs => K (.p cs) else v.plain = true ∧ K (.v v)
def argsVC (tt : TT) (mem : Mem) : List AV → List TypeId → (List CA → Prop) → Prop
  | [], [], K => K []
  | v :: vs, t :: ts, K => argVC tt mem v t fun c => argsVC tt mem vs ts fun cs => K (c :: cs)
  | _, _, _ => False
/-- A row that grows no more. -/
def frz (mem : Mem) (l : Nat) : Mem :=
  match getA mem l with
  | some (.row v e cs) => (l, .frow v cs) :: delA mem l
  | some (.frow v cs) => mem
  | _ => delA mem l
/-- The entries of slices of the call's own are let go; rows are only read from here on. -/
def letGo (mem : Mem) : List AV → Mem
  | [] => mem
  | .slc l .. :: r => letGo (delA mem l) r
  | .grow l .. :: r => letGo (frz mem l) r
  | _ :: r => letGo mem r
def bindR1 (args : List AV) (mem : Mem) (nx : Nat) (r : CR1) (K : KO) : Prop :=
  match r with
  | .v a => K a mem nx
  | .s cs => ∀ A c, cs.len ≤ c → K (.ros nx A cs.len c) ((nx, .ro A c cs) :: mem) (nx + 1)
  | .al cs => ∀ A c, cs.len ≤ c → K (.ros nx A cs.len c) ((nx, .ro A c cs) :: letGo mem args) (nx + 1)
def bindRs (args : List AV) (mem : Mem) (nx : Nat) (rs : List CR1) (K : List AV → Mem → Nat → Prop) : Prop :=
  match rs with
  | [] => K [] mem nx
  | r :: rs => bindR1 args mem nx r fun v mem nx => bindRs args mem nx rs fun vs mem nx => K (v :: vs) mem nx
def bindR (args : List AV) (mem : Mem) (nx : Nat) (r : CR) (K : KO) : Prop :=
  match r with
  | .one r => bindR1 args mem nx r K
  | .tup rs => bindRs args mem nx rs fun vs mem nx => K (.tup vs) mem nx
/-- What comes behind, as words that are not looked into. -/
def RetW (args : List AV) (mem : Mem) (nx : Nat) (K : KO) (r : CR) : Prop := bindR args mem nx r K
theorem retW_eq (args : List AV) (mem : Mem) (nx : Nat) (K : KO) (r : CR) : RetW args mem nx K r = bindR args mem nx r K := rfl
def ExtW (mem : Mem) (nx : Nat) (K : KO) (v : AV) : Prop := K v mem nx
theorem extW_eq (mem : Mem) (nx : Nat) (K : KO) (v : AV) : ExtW mem nx K v = K v mem nx := rfl
def RowW (mem : Mem) (nx n : Nat) (e : TypeId) (K : KO) (cs : Cells) : Prop := ∀ g, K (.slc nx g 0 n n) ((nx, .own g e cs) :: mem) (nx + 1)
theorem rowW_eq (mem : Mem) (nx n : Nat) (e : TypeId) (K : KO) (cs : Cells) : RowW mem nx n e K cs = ∀ g, K (.slc nx g 0 n n) ((nx, .own g e cs) :: mem) (nx + 1) := rfl
def callVC (tt : TT) (ct : CTab) (mem : Mem) (nx : Nat) (F : FuncId) (args : List AV) (tys : List TypeId) (K : KO) : Prop :=
  match ct F with
  | .fn c => argsVC tt mem args tys fun cas => c cas (RetW args mem nx K)
  | .ext x => x args (ExtW mem nx K)
  | .mem _ => False
  | .xmem _ => False
def storeVC (mem : Mem) (i : TI) (x v : AV) (K : Mem → Prop) : Prop :=
  match x with
  | .ptr l g j => (match getA mem l with
    | some (.own g' t cs) => g' = g ∧ (if i.dsc.agg then (match v.cells with
        | some d => if j = 0 ∧ i.size = cs.len then (d.len = i.size ∧ d.ones = true) ∧ K (setA mem l (.own g t d))
          else (d.len = i.size ∧ j + i.size ≤ cs.len) ∧ (match cs.upd j d with
            | some cs' => K (setA mem l (.own g t cs'))
            | none => False)
        | none => False)
      else j < cs.len ∧ (match cs.set j v with
        | some cs' => K (setA mem l (.own g t cs'))
        | none => False))
    | _ => False)
  | .rptr l A j => (match getA mem l with
    | some (.row v' e cs) => (baseV v' = A ∧ i.dsc.agg = false ∧ j < cs.len) ∧ (match cs.set j v with
      | some cs' => K (setA mem l (.row v' e cs'))
      | none => False)
    | _ => False)
  | _ => False
/-- A row that grows is only read once it is stored. -/
def storeGVC (mem : Mem) (i : TI) (x v : AV) (K : Mem → Prop) : Prop :=
  match v with
  | .grow l u n => (match getA mem l with
    | some (.row u' e cs) => (u' = u ∧ cs.len = n) ∧ ∀ A c, n ≤ c → storeVC ((l, .ro A c cs) :: delA mem l) i x (.ros l A n c) K
    | _ => False)
  | v => storeVC mem i x v K
/-- Of what an append goes on: its cells, and what is let go. -/
def appVC (tt : TT) (mem : Mem) (nx : Nat) (t : TypeId) (s x : AV) (K : KO) : Prop :=
  match tt t with
  | some i => (match i.dsc with
    | .slice e => (match tt e with
      | some ie => (ie.size = 1 ∧ 0 < ie.bytes) ∧ rdVC mem ie.zero x fun ys => (match s with
        | .nils => (ys.len * ie.bytes ≤ 140737488355328 ∧ ys.ones = true) ∧ ∀ v, K (.grow nx v ys.len) ((nx, .row v e ys) :: mem) (nx + 1)
        | .slc l g off len cap => (match getA mem l with
          | some (.own g' u cs) => (g' = g ∧ u = e ∧ off = 0 ∧ len ≤ cap ∧ cap = cs.len ∧ cap ≤ 9223372036854775807) ∧ (match (cs.part 0 len).cat ys with
            | some zs => (zs.len * ie.bytes ≤ 140737488355328 ∧ zs.len = len + ys.len ∧ ys.ones = true) ∧ ∀ v, K (.grow nx v zs.len) ((nx, .row v e zs) :: delA mem l) (nx + 1)
            | none => False)
          | _ => False)
        | .grow l v n => (match getA mem l with
          | some (.row v' e' cs) => (v' = v ∧ e' = e ∧ cs.len = n) ∧ (match cs.cat ys with
            | some zs => (zs.len * ie.bytes ≤ 140737488355328 ∧ ys.ones = true) ∧ ∀ v, K (.grow l v zs.len) ((l, .row v e zs) :: delA mem l) nx
            | none => False)
          | _ => False)
        | .ros l A n c => (match getA mem l with
          | some (.ro A' c' cs) => (A' = A ∧ c' = c ∧ cs.len = n ∧ c = n) ∧ (match cs.cat ys with
            | some zs => (zs.len * ie.bytes ≤ 140737488355328 ∧ cs.ones = true ∧ ys.ones = true) ∧ ∀ A1 c1, zs.len ≤ c1 → K (.ros nx A1 zs.len c1) ((nx, .ro A1 c1 zs) :: mem) (nx + 1)
            | none => False)
          | _ => False)
        | _ => False)
      | none => False)
    | _ => False)
  | none => False
/-- 'append(s, make([]T, n)...)'. -/
def apzVC (tt : TT) (mem : Mem) (nx : Nat) (t u : TypeId) (s x : AV) (K : KO) : Prop :=
  match tt t, tt u with
  | some i, some j => (match i.dsc, j.dsc, x with
    | .slice e, .int .i64, .int n => (match tt e with
      | some ie => (ie.size = 1 ∧ 0 < ie.bytes ∧ 0 ≤ n) ∧ (match s with
        | .grow l v m => (match getA mem l with
          | some (.row v' e' cs) => (v' = v ∧ e' = e ∧ cs.len = m) ∧ (match cs.cat (ie.zero.rep n.toNat) with
            | some zs => zs.len * ie.bytes ≤ 140737488355328 ∧ ∀ v, K (.grow l v zs.len) ((l, .row v e zs) :: delA mem l) nx
            | none => False)
          | _ => False)
        | _ => False)
      | none => False)
    | _, _, _ => False)
  | _, _ => False
/-- A constant's bytes. -/
def markVC (tt : TT) (mem : Mem) (nx : Nat) (t : TypeId) (l g off n c : Nat) (K : KO) : Prop :=
  match tt t with
  | some i => (match i.dsc with
    | .slice e => (tt e).map TI.dsc = some (.int .u8) ∧ (match getA mem l with
      | some (.own g' u cs) => (g' = g ∧ off + n ≤ cs.len ∧ n ≤ c ∧ cs.len ≤ 9223372036854775807) ∧ K (.ros nx (some ⟨g, off, none⟩) n c) ((nx, .ro (some ⟨g, off, none⟩) c (cs.part off n)) :: delA mem l) (nx + 1)
      | _ => False)
    | _ => False)
  | none => False
def copyVC (mem : Mem) (nx : Nat) (z : Cells) (d s : AV) (K : KO) : Prop :=
  match d with
  | .slc l g off len cap => (match getA mem l with
    | some (.own g' t cs) => (g' = g ∧ off + len ≤ cs.len) ∧ rdVC mem z s fun ys => (match cs.upd off (ys.part 0 (min ys.len len)) with
      | some cs' => K (.int ((min ys.len len : Nat) : Int)) (setA mem l (.own g t cs')) nx
      | none => False)
    | _ => False)
  | _ => False
/-- Who is called, with what. -/
def whoOf (tt : TT) (env : Env) (c : Call) : Option (FuncId × List AV × List TypeId) :=
  match c.callee with
  | .value (.tmp d) => (match getA env d with
    | some (.fnv F caps) => some (F, c.args.toList.map (ev env) ++ caps, c.argTypes.toList ++ caps.map fun _ => 0)
    | _ => none)
  | .invoke r name => (match ev env r with
    | .ifc t v => (match tt t with
      | some i => (match i.dsc with
        | .ptrm e ms => (match mthOf ms name with
          | some F => some (F, v :: c.args.toList.map (ev env), t :: c.argTypes.toList)
          | none => none)
        | _ => none)
      | none => none)
    | _ => none)
  | _ => none
def opVC (tt : TT) (ct : CTab) (env : Env) (mem : Mem) (nx : Nat) (op : Op) (K : KO) : Prop :=
  match op with
  | .alloc e => (match tt e with
    | some i => ∀ g, K (.ptr nx g 0) ((nx, .own g e i.zero) :: mem) (nx + 1)
    | none => False)
  | .box e x => (match (ev env x).cells with
    | some cs => cs.ones = true ∧ ∀ g, K (.ptr nx g 0) ((nx, .own g e cs) :: mem) (nx + 1)
    | none => False)
  | .buildSlice t n ps => (match tt t with
    | some i => (match i.dsc with
      | .slice e => (match tt e with
        | some ie => (ie.size = 1 ∧ n ≤ 16777216) ∧ fillVC (fun j => some (j, 1)) (ie.zero.rep n) (ps.toList.map fun p => (p.1, ev env p.2)) (RowW mem nx n e K)
        | none => False)
      | _ => False)
    | none => False)
  | .makeSlice t l c => (match tt t with
    | some i => (match i.dsc with
      | .slice e => (match tt e, ev env l, ev env c with
        | some ie, .int n, .int m => (ie.size = 1 ∧ 0 ≤ n ∧ n ≤ m ∧ m * ie.bytes ≤ 140737488355328 ∧ m ≤ 140737488355328) ∧ ∀ g, K (.slc nx g 0 n.toNat m.toNat) ((nx, .own g e (ie.zero.rep m.toNat)) :: mem) (nx + 1)
        | _, _, _ => False)
      | _ => False)
    | none => False)
  | .store t x v => (match tt t with
    | some i => storeGVC mem i (ev env x) (ev env v) fun mem => K .bad mem nx
    | none => False)
  | .call c => (match c.callee with
    | .value (.func F) => callVC tt ct mem nx F (c.args.toList.map (ev env)) c.argTypes.toList K
    | .builtin .append => (match c.args.toList, c.argTypes.toList with
      | [s, x], [t, u] => if t = u then appVC tt mem nx t (ev env s) (ev env x) K else apzVC tt mem nx t u (ev env s) (ev env x) K
      | _, _ => False)
    | .builtin .copy => (match c.args.toList, c.argTypes.toList with
      | [d, s], [t, u] => (tt t).map TI.dsc = (tt u).map TI.dsc ∧ (match tt t with
        | some i => (match i.dsc with
          | .slice e => (tt e).map TI.size = some 1 ∧ copyVC mem nx (zOf tt t) (ev env d) (ev env s) K
          | _ => False)
        | none => False)
      | _, _ => False)
    | .builtin b => bltVC tt mem nx b (c.args.toList.map (ev env)) c.argTypes.toList K
    | _ => (match whoOf tt env c with
      | some (F, args, tys) => callVC tt ct mem nx F args tys K
      | none => False))
  | .convert s d x => (match decide (s = d), ev env x with
    | true, .slc l g off n c => markVC tt mem nx s l g off n c K
    | _, _ => pureVC tt env mem nx (.convert s d x) K)
  | op => pureVC tt env mem nx op K
end Go.Proofs.Ytlcaobnojbkmbaa
/- What is owed for each operation, told without a world: calls are told rightly. For any program. -/
namespace Go.Proofs.Ytlcaobnojbkmbaa
open Go Go.RowKit
set_option linter.unusedVariables false
set_option linter.unusedSimpArgs false
variable {ds : List Deferred}
section
variable {P : Program} {tt : TT} {ct : CTab} {pv : Nat → Prop} {w0 : World} {env : Env} {mem : Mem} {nx : Nat} {a : Act} {N : Nat} {K : KO}
/-- Does it leave every block as it was? -/
def quietOp : Op → Bool
  | .store .. => false
  | .convert s d _ => !decide (s = d)
  | .call c => (match c.callee with
    | .builtin .append | .builtin .copy => false
    | _ => true)
  | _ => true
/-- What 'opVC' is worth. -/
def Post (pv : Nat → Prop) (w0 : World) (mem : Mem) (op : Op) (W : World) (dst : Option Tmp) (a : Act) (K : KO) (a' : Act) (W' : World) : Prop :=
  ∃ v m n V, v.is V ∧ a' = a.put dst V ∧ MRel pv w0 m W' ∧ (quietOp op = true → Below W.heap.size W W') ∧ Frm mem W W' ∧ Near mem m W.heap.size ∧ K v m n
theorem wp_of_value {o : Oper} {W W' : World} {V : Value} {next : Act → World → Prop} {Q : Exit → Act → World → Prop} (h : (execOp a.eval o).run P W = .ok (.value V) W') (hn : next (a.put o.dst V) W') : o.wp P a W next Q := by
  unfold Oper.wp; rw [h]; exact hn
theorem wp_of_skip {o : Oper} {W W' : World} {next : Act → World → Prop} {Q : Exit → Act → World → Prop} (h : (execOp a.eval o).run P W = .ok .skip W') (hn : next (a.put o.dst undef) W') : o.wp P a W next Q := by
  unfold Oper.wp; rw [h]; exact hn
theorem AV.plain_good {v : AV} (h : v.plain = true) : v.good = true := by cases v <;> first | rfl | cases h
theorem AV.plain_blk {v : AV} (h : v.plain = true) : blkW v.conc = none := by cases v <;> first | rfl | cases h
/-- What of an argument's block is known. -/
def ArgBlk (mem : Mem) (v : AV) : Prop := ∀ k, blkW v.conc = some k → ∃ l e, getA mem l = some e ∧ e.blk = some k ∧ (e.mine = true → (∃ g o n c, v = .slc l g o n c) ∨ ∃ u n, v = .grow l u n)
theorem arg_ok {v : AV} {t : TypeId} {K : CA → Prop} (h : argVC tt mem v t K) : ∃ c, K c ∧ v.good = true ∧ (∀ W, MRel pv w0 mem W → argOk W c v.conc) ∧ ((∃ W, MRel pv w0 mem W) → ArgBlk mem v) := by
  unfold argVC at h
  by_cases hs : v.isSl = true
  · rw [if_pos hs] at h
    obtain ⟨cs, hK, hg, hr⟩ := rd_run (pv := pv) (w0 := w0) h
    refine ⟨.s cs, hK, hg, fun W hW => hr W hW, ?_⟩
    rintro ⟨W, hW⟩ k hk
    cases v with
    | nils => cases hk
    | ros l A n c =>
      simp only [rdVC] at h
      cases hgm : getA mem l with
      | none => simp [hgm] at h
      | some e =>
        rw [hgm] at h
        cases e with
        | ro A' c' cs' =>
          obtain ⟨⟨rfl, rfl, _⟩, _⟩ := h
          exact ⟨l, _, hgm, blkC_up _ hk, fun h => by cases h⟩
        | _ => exact h.elim
    | slc l g off len cap =>
      simp only [rdVC] at h
      cases hgm : getA mem l with
      | none => simp [hgm] at h
      | some e =>
        rw [hgm] at h
        cases e with
        | own g' t' cs' =>
          obtain ⟨⟨rfl, _⟩, _⟩ := h
          exact ⟨l, _, hgm, blkC_A hk, fun _ => .inl ⟨_, _, _, _, rfl⟩⟩
        | _ => exact h.elim
    | grow l u n =>
      simp only [rdVC] at h
      cases hgm : getA mem l with
      | none => simp [hgm] at h
      | some e =>
        rw [hgm] at h
        cases e with
        | row u' e' cs' =>
          obtain ⟨⟨rfl, _⟩, _⟩ := h
          refine ⟨l, _, hgm, ?_, fun _ => .inr ⟨_, _, rfl⟩⟩
          obtain ⟨ho, _⟩ := hW.ok _ _ hgm
          rcases ho.2 with ⟨hn, _⟩ | ⟨g, cap, cur, hn, _⟩ <;> rw [show (AV.grow l u' n).conc = u' from rfl, hn] at hk <;> simp only [ME.blk, hn] <;> exact blkC_A hk
        | frow u' cs' =>
          obtain ⟨⟨rfl, _⟩, _⟩ := h
          refine ⟨l, _, hgm, ?_, fun h => by cases h⟩
          obtain ⟨A0, c0, hn, _⟩ := hW.ok _ _ hgm
          rw [show (AV.grow l u' n).conc = u' from rfl, hn] at hk
          simp only [ME.blk, hn]
          replace hk := blkC_A hk
          cases A0 with
          | none => cases hk
          | some a => exact hk
        | _ => exact h.elim
    | _ => cases hs
  · rw [if_neg hs] at h
    by_cases hp : v.isRp = true
    · rw [if_pos hp] at h
      unfold rpVC at h
      split at h
      · rename_i l A
        split at h
        · rename_i A' c cs hgm
          obtain ⟨⟨rfl, hlen⟩, hK⟩ := h
          refine ⟨.p cs, hK, rfl, fun W hW => ?_, fun _ k hk => ?_⟩
          · obtain ⟨hsl, _, hb⟩ := hW.ok _ _ hgm
            obtain ⟨y, r, hy⟩ : ∃ y r, cs.vals = y :: r := by
              cases hv : cs.vals with
              | nil => have := Cells.vals_length cs; rw [hv] at this; simp at this; omega
              | cons y r => exact ⟨y, r, rfl⟩
            obtain ⟨b, o, hA, _⟩ := hsl.2 0 y (by rw [hy]; rfl)
            subst hA
            exact ⟨⟨b, o, none⟩, by simp [AV.conc, addA], hlen, hsl, (hb b (blkC_some (by omega))).1⟩
          · refine ⟨l, _, hgm, ?_, fun h => by cases h⟩
            cases A' with
            | none => cases hk
            | some ad => rw [ME.blk, blkC_some (by omega)]; simpa [AV.conc, blkW, blkA, Addr.add] using hk
        · exact h.elim
      · exact h.elim
    · rw [if_neg hp] at h
      refine ⟨.v v, h.2, AV.plain_good h.1, fun W _ => ⟨AV.plain_good h.1, rfl⟩, fun _ k hk => ?_⟩
      rw [AV.plain_blk h.1] at hk; cases hk
theorem args_ok : ∀ (vs : List AV) (ts : List TypeId) (K : List CA → Prop), argsVC tt mem vs ts K → ∃ cas, K cas ∧ (∀ v ∈ vs, v.good = true) ∧ (∀ W, MRel pv w0 mem W → argsOk W cas (vs.map AV.conc)) ∧ ((∃ W, MRel pv w0 mem W) → ∀ v ∈ vs, ArgBlk mem v)
  | [], [], K, h => ⟨[], h, fun _ h => (by cases h), fun _ _ => trivial, fun _ _ h => (by cases h)⟩
  | [], _ :: _, K, h => h.elim
  | _ :: _, [], K, h => h.elim
  | v :: vs, t :: ts, K, h => by
    obtain ⟨c, h, hg, ho, hb⟩ := arg_ok (pv := pv) (w0 := w0) h
    obtain ⟨cs, h, hgs, hos, hbs⟩ := args_ok vs ts _ h
    refine ⟨c :: cs, h, fun u hu => ?_, fun W hW => ⟨ho W hW, hos W hW⟩, fun hw u hu => ?_⟩
    · rcases List.mem_cons.1 hu with rfl | hu
      · exact hg
      · exact hgs u hu
    · rcases List.mem_cons.1 hu with rfl | hu
      · exact hb hw
      · exact hbs hw u hu
theorem MRel.freeze {W : World} {l : Nat} {v : Value} {e : TypeId} {cs : Cells} (h : MRel pv w0 mem W) (hg : getA mem l = some (.row v e cs)) : MRel pv w0 ((l, .frow v cs) :: delA mem l) W := by
  obtain ⟨ho, h3⟩ := h.ok _ _ hg
  have ho' : W.ownsRow w0.heap.size e 1 v cs.len (cs.vals.map id) := by rw [List.map_id]; exact ho
  obtain ⟨A, c, h1, h2, h4, h5⟩ := owns_sl ho'
  have hbk : ∀ k, blkA A = some k → blkV v = some k := fun k hk => by
    subst h1
    cases A with
    | none => cases hk
    | some a => exact hk
  have hme : MEok pv w0 W (.row v e cs) := ⟨ho, h3⟩
  refine (h.drop l).add l _ ⟨A, c, h1, h2, h5, fun k hk => ⟨hme.blk_lt k (hbk k hk), hme.prov k (hbk k hk)⟩⟩ fun l' e' he' hm k hk hk' => ?_
  rw [getA_delA] at he'
  split at he'
  · cases he'
  · rename_i hne
    exact h.sep l _ l' e' hg he' (fun hh => hne hh.symm) rfl k hk hk'
theorem frz_get {mem : Mem} {k l : Nat} {e : ME} (h : getA (frz mem k) l = some e) : (getA mem l = some e ∧ (l = k → e.mine = false)) ∨ (l = k ∧ e.mine = false ∧ ∃ e0, getA mem l = some e0 ∧ e.blk = e0.blk) := by
  unfold frz at h
  have del : getA (delA mem k) l = some e → (getA mem l = some e ∧ (l = k → e.mine = false)) := fun h => by
    rw [getA_delA] at h
    split at h
    · cases h
    · rename_i hne; exact ⟨h, fun hh => absurd hh hne⟩
  split at h
  · rename_i v t cs hg
    simp only [getA] at h
    split at h
    · rename_i hkl; injection h with h; subst h; subst hkl; exact .inr ⟨rfl, rfl, _, hg, rfl⟩
    · exact .inl (del h)
  · rename_i v cs hg
    refine .inl ⟨h, fun hh => ?_⟩
    subst hh; rw [hg] at h; injection h with h; subst h; rfl
  · exact .inl (del h)
theorem MRel.frz {W : World} (h : MRel pv w0 mem W) (l : Nat) : MRel pv w0 (frz mem l) W := by
  unfold Go.Proofs.Ytlcaobnojbkmbaa.frz
  split
  · rename_i v t cs hg; exact h.freeze hg
  · exact h
  · exact h.drop l
theorem MRel.letGo {W : World} : ∀ (args : List AV) {mem : Mem}, MRel pv w0 mem W → MRel pv w0 (letGo mem args) W
  | [], mem, h => h
  | v :: r, mem, h => by
    cases v <;> simp only [Go.Proofs.Ytlcaobnojbkmbaa.letGo]
    case slc k g o n c => exact MRel.letGo r (h.drop k)
    case grow k u n => exact MRel.letGo r (h.frz k)
    all_goals exact MRel.letGo r h
theorem letGo_get : ∀ (args : List AV) (mem : Mem) (l : Nat) (e : ME), getA (letGo mem args) l = some e → (∃ e0, getA mem l = some e0 ∧ e.blk = e0.blk ∧ (e.mine = true → e = e0)) ∧ (e.mine = true → ∀ v ∈ args, (∀ g o n c, v ≠ .slc l g o n c) ∧ ∀ u n, v ≠ .grow l u n)
  | [], mem, l, e, h => ⟨⟨e, h, rfl, fun _ => rfl⟩, fun _ _ h => by cases h⟩
  | v :: r, mem, l, e, h => by
    cases v <;> simp only [letGo] at h
    case slc k g o n c =>
      obtain ⟨⟨e0, h1, h2, h3⟩, h4⟩ := letGo_get r _ l e h
      rw [getA_delA] at h1
      split at h1
      · cases h1
      · rename_i hne
        refine ⟨⟨e0, h1, h2, h3⟩, fun hm v hv => ?_⟩
        rcases List.mem_cons.1 hv with rfl | hv
        · exact ⟨fun g o n c e => hne (by injection e with e; exact e.symm), fun u n e => by cases e⟩
        · exact h4 hm v hv
    case grow k u n =>
      obtain ⟨⟨e0, h1, h2, h3⟩, h4⟩ := letGo_get r _ l e h
      rcases frz_get h1 with ⟨g1, g2⟩ | ⟨g1, g2, e1, g3, g4⟩
      · refine ⟨⟨e0, g1, h2, h3⟩, fun hm v hv => ?_⟩
        rcases List.mem_cons.1 hv with rfl | hv
        · refine ⟨fun g o n c e => (by cases e), fun u n e => ?_⟩
          have hk : l = k := by injection e with e; exact e.symm
          have := h3 hm
          subst this
          rw [g2 hk] at hm; cases hm
        · exact h4 hm v hv
      · have hnm : e.mine = true → False := fun hm => by
          have := h3 hm
          subst this
          rw [g2] at hm; cases hm
        exact ⟨⟨e1, g3, h2.trans g4, fun hm => (hnm hm).elim⟩, fun hm => (hnm hm).elim⟩
    all_goals
      obtain ⟨h1, h2⟩ := letGo_get r _ l e h
      refine ⟨h1, fun hm v hv => ?_⟩
      rcases List.mem_cons.1 hv with rfl | hv
      · exact ⟨fun g o n c e => (by cases e), fun u n e => (by cases e)⟩
      · exact h2 hm v hv
/-- What is known while results come in. -/
structure Coming (pv : Nat → Prop) (w0 W W' : World) (mem0 mem : Mem) : Prop where
  rel : MRel pv w0 mem W'
  mine : ∀ l e, getA mem l = some e → e.mine = true → getA mem0 l = some e
  near : Near mem0 mem W.heap.size
theorem bind1_ok {W W' : World} {mem0 : Mem} {args : List AV} {r : CR1} {V : Value} (h0 : MRel pv w0 mem0 W) (hb : ∀ v ∈ args, ArgBlk mem0 v) (hc : Coming pv w0 W W' mem0 mem) (hr : resOk1 (args.map AV.conc) W W' r V) (h : bindR1 args mem nx r K) :
    ∃ v m n, v.good = true ∧ V = v.conc ∧ Coming pv w0 W W' mem0 m ∧ K v m n := by
  cases r with
  | v a => exact ⟨a, mem, nx, hr.1, hr.2, hc, h⟩
  | s cs =>
    obtain ⟨A, c, rfl, hlc, hs, hk⟩ := hr
    refine ⟨_, _, _, rfl, rfl, ⟨hc.rel.add nx (.ro A c cs) ⟨hs, hlc, fun k hk2 => ⟨(hk k (blkC_dn hlc hk2)).2, .inl (Nat.le_trans h0.size (hk k (blkC_dn hlc hk2)).1)⟩⟩ fun l' e' he' hm k hk1 hk2 => ?_, fun l e he hm => ?_, fun l e k he hek => ?_⟩, h A c hlc⟩
    · rcases hm with hm | hm
      · cases hm
      · have := (h0.ok _ _ (hc.mine l' e' he' hm)).blk_lt k hk2
        have := (hk k (blkC_dn hlc hk1)).1
        omega
    · simp only [getA] at he
      split at he
      · injection he with he; subst he; cases hm
      · exact hc.mine l e he hm
    · simp only [getA] at he
      split at he
      · injection he with he; subst he; exact .inr (hk k (blkC_dn hlc hek)).1
      · exact hc.near l e k he hek
  | al cs =>
    obtain ⟨A, c, rfl, hlc, hs, hk⟩ := hr
    have halk : ∀ k, blkC A c = some k → w0.heap.size ≤ k ∨ pv k := fun k hk2 => by
      rcases (hk k hk2).1 with h4 | ⟨u, hu, huk⟩
      · exact .inl (Nat.le_trans h0.size h4)
      · obtain ⟨v, hv, rfl⟩ := List.mem_map.1 hu
        obtain ⟨l, e, he, hek, _⟩ := hb v hv k huk
        exact (h0.ok _ _ he).prov k hek
    have hrel : MRel pv w0 (letGo mem args) W' := MRel.letGo args hc.rel
    refine ⟨_, _, _, rfl, rfl, ⟨hrel.add nx (.ro A c cs) ⟨hs, hlc, fun k hk2 => ⟨(hk k (blkC_dn hlc hk2)).2, halk k (blkC_dn hlc hk2)⟩⟩ fun l' e' he' hm k hk1 hk2 => ?_, fun l e he hm => ?_, fun l e k he hek => ?_⟩, h A c hlc⟩
    · rcases hm with hm | hm
      · cases hm
      · obtain ⟨⟨e0, h1, _, hee⟩, h2⟩ := letGo_get args mem l' e' he'
        obtain rfl := hee hm
        have h2 := h2 hm
        have h3 := hc.mine l' e' h1 hm
        rcases (hk k (blkC_dn hlc hk1)).1 with h4 | ⟨u, hu, huk⟩
        · have := (h0.ok _ _ h3).blk_lt k hk2
          omega
        · obtain ⟨v, hv, rfl⟩ := List.mem_map.1 hu
          obtain ⟨l, e, he, hek, hmine⟩ := hb v hv k huk
          by_cases hll : l' = l
          · subst hll
            rw [h3] at he; injection he with he; subst he
            rcases hmine hm with ⟨g, o, n, c, rfl⟩ | ⟨u, n, rfl⟩
            · exact (h2 _ hv).1 _ _ _ _ rfl
            · exact (h2 _ hv).2 _ _ rfl
          · exact h0.sep l' e' l e h3 he hll hm k hk2 hek
    · simp only [getA] at he
      split at he
      · injection he with he; subst he; cases hm
      · obtain ⟨⟨e0, h1, _, hee⟩, _⟩ := letGo_get args mem l e he
        obtain rfl := hee hm
        exact hc.mine l e h1 hm
    · simp only [getA] at he
      split at he
      · injection he with he; subst he
        rcases (hk k (blkC_dn hlc hek)).1 with h4 | ⟨u, hu, huk⟩
        · exact .inr h4
        · obtain ⟨v, hv, rfl⟩ := List.mem_map.1 hu
          obtain ⟨l, e, he, hek, _⟩ := hb v hv k huk
          exact .inl ⟨l, e, he, hek⟩
      · obtain ⟨⟨e0, h1, hbb, _⟩, _⟩ := letGo_get args mem l e he
        exact hc.near l e0 k h1 (hbb ▸ hek)
theorem binds_ok {W W' : World} {mem0 : Mem} {args : List AV} (h0 : MRel pv w0 mem0 W) (hb : ∀ v ∈ args, ArgBlk mem0 v) : ∀ (rs : List CR1) (mem : Mem) (nx : Nat) (Vs : List Value) (K : List AV → Mem → Nat → Prop), Coming pv w0 W W' mem0 mem → ressOk (args.map AV.conc) W W' rs Vs → bindRs args mem nx rs K →
    ∃ vs m n, Vs = vs.map AV.conc ∧ Coming pv w0 W W' mem0 m ∧ K vs m n
  | [], mem, nx, [], K, hc, _, h => ⟨[], mem, nx, rfl, hc, h⟩
  | [], _, _, _ :: _, _, _, hr, _ => hr.elim
  | _ :: _, _, _, [], _, _, hr, _ => hr.elim
  | r :: rs, mem, nx, V :: Vs, K, hc, hr, h => by
    obtain ⟨v, m, n, _, rfl, hc1, h⟩ := bind1_ok h0 hb hc hr.1 h
    obtain ⟨vs, m2, n2, rfl, hc2, h⟩ := binds_ok h0 hb rs m n Vs _ hc1 hr.2 h
    exact ⟨v :: vs, m2, n2, rfl, hc2, h⟩
theorem bind_ok {W W' : World} {args : List AV} {r : CR} {V : Value} (h0 : MRel pv w0 mem W) (hb : ∀ v ∈ args, ArgBlk mem v) (hB : Below W.heap.size W W') (hr : resOk (args.map AV.conc) W W' r V) (h : bindR args mem nx r K) :
    ∃ v m n, v.is V ∧ MRel pv w0 m W' ∧ Near mem m W.heap.size ∧ K v m n := by
  have hc : Coming pv w0 W W' mem mem := ⟨h0.down hB, fun _ _ h _ => h, (NoNew.refl mem).near _⟩
  cases r with
  | one r =>
    obtain ⟨v, m, n, _, rfl, hc1, h⟩ := bind1_ok h0 hb hc hr h
    exact ⟨v, m, n, AV.is_refl v, hc1.rel, hc1.near, h⟩
  | tup rs =>
    obtain ⟨Vs, rfl, hr⟩ := hr
    obtain ⟨vs, m, n, rfl, hc1, h⟩ := binds_ok h0 hb rs mem nx Vs _ hc hr h
    exact ⟨.tup vs, m, n, .inr (by simp [AV.conc, concs_map]), hc1.rel, hc1.near, h⟩
/-- What carries out a call. -/
def Dials (P : Program) (a : Act) (o : Oper) (F : FuncId) (args : List AV) : Prop :=
  (∀ v ∈ args, v.good = true) → ∀ W : World, (execOp a.eval o).run P W = (callFunc F (args.map AV.conc).toArray).run P W
theorem vals_of {c : Array Operand} (hE : ERel ds env a N) (hg : ∀ v ∈ c.toList.map (ev env), v.good = true) : c.map a.eval = ((c.toList.map (ev env)).map AV.conc).toArray := by
  apply Array.ext'
  simp only [Array.toList_map, List.map_map]
  apply List.map_congr_left
  intro x hx
  exact ev_is hE rfl (hg _ (List.mem_map_of_mem hx))
theorem dials_fn (hE : ERel ds env a N) {o : Oper} {c : Call} {F : FuncId} (ho : o.op = .call c) (hF : c.callee = .value (.func F)) : Dials P a o F (c.args.toList.map (ev env)) := fun hg W => by
  have hvals := vals_of hE hg
  obtain ⟨callee, args, tys⟩ := c
  dsimp only at hF hvals
  subst hF
  unfold execOp
  simp only [ho, resolve, Act.eval, Deferred.ofValue, invoke, Sem.run_bind, Sem.run_pure, Result.andThen_ok]
  rw [← hvals]
  simp
theorem method_run {t : TypeId} {V : Value} {name : String} {F : FuncId} {e : TypeId} (hu : P.underlying t = some (.pointer e)) (hm : ((P.info? t).bind fun i => i.methods.find? fun m => m.name == name).map (fun m => (m.path, m.func)) = some (#[], some (F, true))) (k : Nat) (W : World) :
    (method (k + 1) t V name).run P W = .ok (F, V) W := by
  obtain ⟨m, hm1, hm2⟩ := Option.map_eq_some_iff.1 hm
  obtain ⟨i, hi, hf⟩ := Option.bind_eq_some_iff.1 hm1
  simp only [Prod.mk.injEq] at hm2
  unfold method
  simp only [typeInfo, Sem.run_bind, run_program, Result.andThen_ok, hi, Sem.run_pure, hf, hm2.1, hm2.2, follow, receiverAt, run_underlying hu, Place.get, Array.toList_empty]
theorem dials_who (hTT : TTok P tt) (hE : ERel ds env a N) {o : Oper} {c : Call} {F : FuncId} {args : List AV} {tys : List TypeId} (ho : o.op = .call c) (hw : whoOf tt env c = some (F, args, tys)) : Dials P a o F args := fun hg W => by
  unfold whoOf at hw
  split at hw
  · rename_i d hc
    split at hw
    · rename_i F' caps hd
      simp only [Option.some.injEq, Prod.mk.injEq] at hw
      obtain ⟨rfl, rfl, _⟩ := hw
      have e0 := ev_is hE (x := .tmp d) (v := .fnv F' caps) (by simp [ev, hd]) rfl
      have hvals := vals_of hE (c := c.args) fun v hv => hg v (List.mem_append_left _ hv)
      obtain ⟨callee, args, tys⟩ := c
      dsimp only at hc hvals
      subst hc
      unfold execOp
      simp only [ho, resolve, e0, AV.conc, Deferred.ofValue, invoke, Sem.run_bind, Sem.run_pure, Result.andThen_ok, concs_map]
      rw [hvals]
      simp
    · cases hw
  · rename_i r name hc
    split at hw
    · rename_i t v hr
      split at hw
      · rename_i i hi
        split at hw
        · rename_i e ms hd
          split at hw
          · rename_i F' hm
            simp only [Option.some.injEq, Prod.mk.injEq] at hw
            obtain ⟨rfl, rfl, _⟩ := hw
            have e0 := ev_is hE hr rfl
            have hvals := vals_of hE (c := c.args) fun v hv => hg v (List.mem_cons_of_mem _ hv)
            have hk := (hTT t i hi).dsc
            rw [hd] at hk
            obtain ⟨hu, hk⟩ := hk
            obtain ⟨p, hp, rfl⟩ := Option.map_eq_some_iff.1 hm
            have hpn : p.1 = name := by simpa using List.find?_some hp
            have hk := hk p (List.mem_of_find?_eq_some hp)
            rw [hpn] at hk
            obtain ⟨callee, args, tys⟩ := c
            dsimp only at hc hvals
            subst hc
            have hfuel : ∃ k, (P.types.size + Made.depth) = k + 1 := ⟨P.types.size + 99, rfl⟩
            obtain ⟨k, hk1⟩ := hfuel
            unfold execOp
            simp only [ho, resolve, e0, AV.conc, invoke, callMethod, Sem.run_bind, Sem.run_pure, Result.andThen_ok, run_program]
            have hmr : (method (P.types.size + Made.depth) t v.conc name).run P W = .ok (p.2, v.conc) W := by rw [hk1]; exact method_run hu hk k W
            rw [hvals]
            simp [hmr, List.take_of_length_le]
          · cases hw
        · cases hw
      · cases hw
    · cases hw
  · cases hw
theorem callx_ok (hCT : CTok P ct) {o : Oper} {F : FuncId} {args : List AV} {tys : List TypeId} (hd : Dials P a o F args) {Q : Exit → Act → World → Prop}
    (h : callVC tt ct mem nx F args tys K) {W : World} (hW : MRel pv w0 mem W) : o.wp P a W (Post pv w0 mem o.op W o.dst a K) Q := by
  unfold callVC at h
  have hcF := hCT F
  cases hct : ct F with
  | ext x =>
    rw [hct] at hcF h
    dsimp only at h
    obtain ⟨v, h1, h2, h3, h4⟩ := hcF _ _ h
    exact wp_of_value (V := v.conc) (W' := W) ((hd h3 W).trans (h4 W)) ⟨v, mem, nx, _, .inr rfl, rfl, hW, fun _ => Below.refl _ _, Frm.of_below _ (Below.refl _ _), (NoNew.refl mem).near _, h2⟩
  | mem cc => rw [hct] at h; exact h.elim
  | xmem cc => rw [hct] at h; exact h.elim
  | fn cc =>
  rw [hct] at hcF h
  dsimp only at h
  obtain ⟨cas, h, hg, hargs, hblk⟩ := args_ok (pv := pv) (w0 := w0) _ _ _ h
  have hb := hblk ⟨W, hW⟩
  obtain ⟨⟨fn, hfn, hname, hbody⟩, hcall⟩ := hcF cas _ W _ (hargs W hW) h
  have hrun : (execOp a.eval o).run P W = .ok (.enter F (args.map AV.conc).toArray) W := by
    rw [hd hg W]
    simp only [callFunc, Sem.run_bind, Sem.run_pure, Result.andThen_ok, run_program, hfn, hname, hbody, Bool.false_eq_true, if_false]
  unfold Oper.wp
  rw [hrun]
  refine Calls.mono hcall fun e W' he => ?_
  obtain ⟨r, V, rfl, hres, hB, hK⟩ := he
  obtain ⟨v, m, n, hv, hm, hnear, hK⟩ := bind_ok hW hb hB hres hK
  exact ⟨v, m, n, V, hv, rfl, hm, fun _ => hB, Frm.of_below _ hB, hnear, hK⟩
/-- A call of a function without a body that makes memory. -/
theorem xmem_ok (hCT : CTok P ct) {o : Oper} {F : FuncId} {args : List AV} (hd : Dials P a o F args) {m : MT} (hct : ct F = .xmem m) {Q : Exit → Act → World → Prop}
    (h : m args mem nx K) {W : World} (hW : MRel pv w0 mem W) : o.wp P a W (fun a' W' => ∃ v m n V, v.is V ∧ a' = a.put o.dst V ∧ MRel pv w0 m W' ∧ K v m n) Q := by
  have hcF := hCT F
  rw [hct] at hcF
  obtain ⟨hg, v, m', n, W', hrun, hv, hm, hK⟩ := hcF pv w0 W _ _ _ _ h hW
  exact wp_of_value (V := v.conc) (W' := W') ((hd hg W).trans hrun) ⟨v, m', n, _, .inr rfl, rfl, hm, hK⟩
/-- A call of a function that writes into what it is handed. -/
theorem mem_ok (hCT : CTok P ct) {o : Oper} {F : FuncId} {args : List AV} (hd : Dials P a o F args) {m : MT} (hct : ct F = .mem m) {Q : Exit → Act → World → Prop}
    (h : m args mem nx K) {W : World} (hW : MRel pv w0 mem W) : o.wp P a W (fun a' W' => ∃ v m n V, v.is V ∧ a' = a.put o.dst V ∧ MRel pv w0 m W' ∧ K v m n) Q := by
  have hcF := hCT F
  rw [hct] at hcF
  obtain ⟨hg, ⟨fn, hfn, hname, hbody⟩, hcall⟩ := hcF pv w0 W _ _ _ _ h hW
  have hrun : (execOp a.eval o).run P W = .ok (.enter F (args.map AV.conc).toArray) W := by
    rw [hd hg W]
    simp only [callFunc, Sem.run_bind, Sem.run_pure, Result.andThen_ok, run_program, hfn, hname, hbody, Bool.false_eq_true, if_false]
  unfold Oper.wp
  rw [hrun]
  refine Calls.mono hcall fun e W' he => ?_
  obtain ⟨v, m, n, rfl, hv, hm, hK⟩ := he
  exact ⟨v, m, n, _, .inr rfl, rfl, hm, hK⟩
end
end Go.Proofs.Ytlcaobnojbkmbaa
/- What is owed for each operation, told without a world: operations that make or write memory are told rightly. For any program. -/
namespace Go.Proofs.Ytlcaobnojbkmbaa
open Go Go.RowKit
set_option linter.unusedVariables false
set_option linter.unusedSimpArgs false
variable {ds : List Deferred}
section
variable {P : Program} {tt : TT} {ct : CTab} {pv : Nat → Prop} {w0 : World} {env : Env} {mem : Mem} {nx : Nat} {a : Act} {N : Nat} {K : KO}
theorem exec_value' {ρ : Operand → Value} {o : Oper} {s : Sem Value} {v : Value} {W W' : World} (he : execOp ρ o = (do pure (Next.value (← s)))) (h : s.run P W = .ok v W') : (execOp ρ o).run P W = .ok (.value v) W' := by
  rw [he]; exact run_value h
theorem run_newVar' (t : TypeId) (v : Value) (W : World) : (newVar t v).run P W = .ok ⟨W.heap.size, 0, none⟩ (W.alloc (.cells v.cells t)) := by
  rfl
theorem run_newRow' (t : TypeId) (cs : Array Value) (W : World) : (newRow t cs).run P W = .ok ⟨W.heap.size, 0, none⟩ (W.alloc (.cells cs t)) := by
  rfl
theorem post_new {op : Op} {W : World} {dst : Option Tmp} (hW : MRel pv w0 mem W) (t : TypeId) (cs : Cells) (h1 : cs.ones = true) (v : AV) (V : Value) (hV : v.is V) (hK : K v ((nx, .own W.heap.size t cs) :: mem) (nx + 1)) :
    Post pv w0 mem op W dst a K (a.put dst V) (W.alloc (.cells cs.vals.toArray t)) :=
  ⟨v, _, _, V, hV, rfl, hW.alloc nx t cs h1, fun _ => (Below.refl _ W).alloc (Nat.le_refl _) _, Frm.of_below _ ((Below.refl _ W).alloc (Nat.le_refl _) _), Near.cons fun k hk => (by injection hk with hk; right; omega), hK⟩
theorem Cells.rep_vals (z : Cells) (n : Nat) (h : z.len = 1) (h1 : z.ones = true) : (z.rep n).vals = List.replicate n (z.vals.headD undef) ∧ (z.rep n).len = n ∧ (z.rep n).ones = true := by
  cases z with
  | c8 xs =>
    match xs, h with
    | [x], _ => exact ⟨by simp [Cells.rep, Cells.vals, g8], by simp [Cells.rep, Cells.len], rfl⟩
  | c32 xs =>
    match xs, h with
    | [x], _ => exact ⟨by simp [Cells.rep, Cells.vals, g32], by simp [Cells.rep, Cells.len], rfl⟩
  | c64 xs =>
    match xs, h with
    | [x], _ => exact ⟨by simp [Cells.rep, Cells.vals, g64], by simp [Cells.rep, Cells.len], rfl⟩
  | cv xs =>
    match xs, h with
    | [x], _ =>
      refine ⟨by simp [Cells.rep, Cells.vals], by simp [Cells.rep, Cells.len], ?_⟩
      simp only [Cells.ones, List.all_cons, List.all_nil, Bool.and_true] at h1
      simp only [Cells.rep, Cells.ones, List.getD_cons_zero, List.all_eq_true]
      intro y hy
      rw [List.eq_of_mem_replicate hy]; exact h1
  | m32 xs t =>
    have hc : (Cells.m32 xs t).vals = (avs32 xs t).map AV.conc := by rw [avs32_conc]; rfl
    have ho : ∀ x ∈ avs32 xs t, x.one = true := fun x hx => by
      rcases List.mem_append.1 hx with hx | hx
      · obtain ⟨y, _, rfl⟩ := List.mem_map.1 hx; rfl
      · exact List.all_eq_true.1 h1 x hx
    have hl : (avs32 xs t).length = 1 := by have h2 : xs.length + t.length = 1 := h; simpa [avs32] using h2
    rw [hc]
    simp only [Cells.rep]
    generalize avs32 xs t = l at *
    match l, hl with
    | [x], _ =>
      refine ⟨by simp [Cells.vals], by simp [Cells.len], ?_⟩
      simp only [Cells.ones, List.getD_cons_zero, List.all_eq_true]
      intro y hy
      rw [List.eq_of_mem_replicate hy]
      exact ho x (by simp)
  | m64 xs t =>
    have hc : (Cells.m64 xs t).vals = (avs64 xs t).map AV.conc := by rw [avs64_conc]; rfl
    have ho : ∀ x ∈ avs64 xs t, x.one = true := fun x hx => by
      rcases List.mem_append.1 hx with hx | hx
      · obtain ⟨y, _, rfl⟩ := List.mem_map.1 hx; rfl
      · exact List.all_eq_true.1 h1 x hx
    have hl : (avs64 xs t).length = 1 := by have h2 : xs.length + t.length = 1 := h; simpa [avs64] using h2
    rw [hc]
    simp only [Cells.rep]
    generalize avs64 xs t = l at *
    match l, hl with
    | [x], _ =>
      refine ⟨by simp [Cells.vals], by simp [Cells.len], ?_⟩
      simp only [Cells.ones, List.getD_cons_zero, List.all_eq_true]
      intro y hy
      rw [List.eq_of_mem_replicate hy]
      exact ho x (by simp)
theorem fill_ones {place : Nat → Option (Nat × Nat)} : ∀ (ps : List (Nat × AV)) (cs : Cells) (K : Cells → Prop), fillVC place cs ps K → cs.ones = true → fillVC place cs ps (fun c => K c ∧ c.ones = true)
  | [], cs, K, h, h1 => ⟨h, h1⟩
  | (i, v) :: r, cs, K, h, h1 => by
    unfold fillVC at h ⊢
    cases hp : place i with
    | none => simp [hp] at h
    | some q =>
      obtain ⟨off, size⟩ := q
      simp only [hp] at h ⊢
      by_cases hs : size = 1
      · rw [if_pos hs] at h ⊢
        refine ⟨h.1, ?_⟩
        have h := h.2
        cases hset : cs.set off v with
        | none => simp [hset] at h
        | some c1 =>
          simp only [hset] at h ⊢
          exact fill_ones r c1 K h (Cells.set_ones cs off v c1 hset h1)
      · rw [if_neg hs] at h ⊢
        cases hc : v.cells with
        | none => simp [hc] at h
        | some d =>
          simp only [hc] at h ⊢
          refine ⟨h.1, ?_⟩
          have h := h.2
          cases hu : cs.upd off d with
          | none => simp [hu] at h
          | some c1 =>
            simp only [hu] at h ⊢
            exact fill_ones r c1 K h (Cells.upd_ones cs off d c1 hu h1)
theorem good_of_store {v : AV} {d : Cells} (h : v.cells = some d) : v.good = true := by cases v <;> first | rfl | cases h
/-- Cells of a block of the call's own, turned from a place on. -/
theorem store_run {W : World} {l g : Nat} {t ty : TypeId} {i : TI} (hi : TIok P ty i) {cs : Cells} (hW : MRel pv w0 mem W) (hg : getA mem l = some (.own g t cs)) {V : Value} {vs : List Value} {j : Nat} (hV : V.cells = vs.toArray) (hvs : vs.length = i.size) (hj : j + vs.length ≤ cs.len) (h1 : ∀ v ∈ vs, v.oneCell' = true) :
    (Instr.storeAt ty (.pointer (some ⟨g, j, none⟩)) V).run P W = .ok () (W.setRow g (cs.vals.take j ++ vs ++ cs.vals.drop (j + vs.length)).toArray) := by
  rw [hvs]
  obtain ⟨ho, _, _⟩ := hW.ok _ _ hg
  have := run_storeCells_at (P := P) g j t vs 0 cs.vals.toArray W ho (by simp [Cells.vals_length]; omega) h1
  unfold Instr.storeAt Instr.sureAddr
  simp only [Sem.run_bind, Sem.run_pure, Result.andThen_ok]
  unfold storeVar
  simp only [Sem.run_bind, hi.rsize, Result.andThen_ok, hV, List.size_toArray, hvs, ne_eq, not_true, if_false]
  rw [hvs] at this
  simpa only [Nat.add_zero] using this
theorem store_ok (hTT : TTok P tt) (hE : ERel ds env a N) {o : Oper} {t : TypeId} {x v : Operand} (ho : o.op = .store t x v) {i : TI} (ht : tt t = some i) {Q : Exit → Act → World → Prop}
    (h : storeVC mem i (ev env x) (ev env v) fun mem => K .bad mem nx) {W : World} (hW : MRel pv w0 mem W) : o.wp P a W (Post pv w0 mem o.op W o.dst a K) Q := by
  have hi := hTT t i ht
  have hexec : ∀ W', (Instr.storeAt t (a.eval x) (a.eval v)).run P W = .ok () W' → (execOp a.eval o).run P W = .ok .skip W' := fun W' hr => by
    unfold execOp
    simp only [ho, Sem.run_bind, hr, Result.andThen_ok, Sem.run_pure]
  have hq : quietOp o.op = false := by rw [ho]; rfl
  unfold storeVC at h
  cases hx : ev env x <;> simp only [hx] at h <;> try exact h.elim
  case rptr l A j =>
    have ex := ev_is hE hx rfl
    cases hg : getA mem l with
    | none => simp [hg] at h
    | some e =>
      rw [hg] at h
      cases e with
      | row v' e cs =>
        obtain ⟨⟨hA, ha, hj⟩, h⟩ := h
        obtain ⟨how, h1c⟩ := hW.ok _ _ hg
        cases hset : cs.set j (ev env v) with
        | none => simp [hset] at h
        | some c1 =>
          simp only [hset] at h
          obtain ⟨e1, e2, e3, e4⟩ := Cells.set_ok cs j _ c1 hset
          have hgood : (ev env v).good = true := by
            cases hv : ev env v <;> first | rfl | exact absurd hv e4
          have evv := ev_is hE (x := v) rfl hgood
          have hcells : (ev env v).conc.cells = #[(ev env v).conc] := by revert e3; cases (ev env v).conc <;> simp [Value.oneCell', Value.cells]
          rcases how.2 with ⟨_, hn⟩ | ⟨g, cap, cur, rfl, hg0, hgb, hnc, hcm, hcs, htk⟩
          · omega
          obtain rfl : A = some ⟨g, 0, none⟩ := hA.symm
          have hbnd : 0 + j + [(ev env v).conc].length ≤ cur.size := by simp only [List.length_cons, List.length_nil]; omega
          have hst := run_storeCells_at (P := P) g 0 e [(ev env v).conc] j cur W hgb hbnd (by intro y hy; rw [List.mem_singleton.1 hy]; exact e3)
          have hst' := run_storeCells_at (P := P) g j e [(ev env v).conc] 0 cur W hgb (by simp only [List.length_cons, List.length_nil]; omega) (by intro y hy; rw [List.mem_singleton.1 hy]; exact e3)
          have hsz : i.size = 1 := hi.one ha
          have hr : (Instr.storeAt t (AV.rptr l (some ⟨g, 0, none⟩) j).conc (ev env v).conc).run P W = .ok () (W.setRow g (cur.toList.set j (ev env v).conc).toArray) := by
            rw [show (AV.rptr l (some ⟨g, 0, none⟩) j).conc = .pointer (some ⟨g, j, none⟩) by simp [AV.conc, addA]]
            unfold Instr.storeAt Instr.sureAddr
            simp only [Sem.run_bind, Sem.run_pure, Result.andThen_ok]
            unfold storeVar
            simp only [Sem.run_bind, hi.rsize, Result.andThen_ok, hcells, List.size_toArray, List.length_cons, List.length_nil, Nat.zero_add, hsz, ne_eq, not_true, if_false]
            simp only [Nat.add_zero] at hst'
            rw [hst', List.set_eq_take_append_cons_drop, if_pos (by rw [Array.length_toList]; omega)]
            simp
          rw [← evv] at hr
          have hne : ∀ k, k ≠ g → (W.setRow g (cur.toList.set j (a.eval v)).toArray).heap[k]? = W.heap[k]? := fun k hk => setRow_other W g k _ hk
          refine wp_of_skip (hexec _ (by rw [ex]; exact hr)) ⟨.bad, _, _, undef, .inl rfl, rfl, ?_, fun h => (by rw [hq] at h; cases h), Frm.row hg rfl _, Near.set (e1 := .row (.slice (some ⟨g, 0, none⟩) cs.len cap) e c1) hg rfl _, h⟩
          refine hW.turn l _ _ hg (below_row hW.below hg0 _) ⟨⟨by rw [Cells.vals_length]; omega, .inr ⟨g, cap, (cur.toList.set j (a.eval v)).toArray, by rw [e2], hg0, setRow_heap W g cur _ e _ hgb, by omega, hcm, by simpa using hcs, ?_⟩⟩, Cells.set_ones cs j _ c1 hset h1c⟩ (.inl fun _ h => h) (fun _ => rfl) rfl (by simp) fun k _ hk => hne k fun e => hk (by rw [e]; rfl)
          rw [e1, e2, evv, ← htk]
          simp [List.take_set]
      | _ => exact h.elim
  rename_i l g j
  have ex := ev_is hE hx rfl
  cases hg : getA mem l with
  | none => simp [hg] at h
  | some e =>
    rw [hg] at h
    cases e with
    | own g' u cs =>
      obtain ⟨rfl, h⟩ := h
      obtain ⟨how, hbase, h1c⟩ := hW.ok _ _ hg
      by_cases ha : i.dsc.agg = true
      · rw [if_pos ha] at h
        cases hc : (ev env v).cells with
        | none => simp [hc] at h
        | some d =>
          simp only [hc] at h
          have evv := ev_is hE (x := v) rfl (good_of_store hc)
          have hVc := AV.cells_ok _ d hc _ (AV.is_refl _)
          by_cases hw : j = 0 ∧ i.size = cs.len
          · rw [if_pos hw] at h
            obtain ⟨rfl, hs⟩ := hw
            obtain ⟨⟨hd, h1⟩, hK⟩ := h
            have hr := store_run (P := P) hi hW hg (V := (ev env v).conc) (vs := d.vals) (j := 0) hVc (by rw [Cells.vals_length, hd]) (by rw [Cells.vals_length]; omega) (Cells.ones_ok d h1)
            rw [← evv] at hr
            refine wp_of_skip (hexec _ (by rw [ex]; exact hr)) ⟨.bad, _, _, undef, .inl rfl, rfl, ?_, fun h => (by rw [hq] at h; cases h), Frm.row hg rfl _, Near.setOwn hg, hK⟩
            have : cs.vals.take 0 ++ d.vals ++ cs.vals.drop (0 + d.vals.length) = d.vals := by
              rw [List.drop_eq_nil_of_le (by simp only [Cells.vals_length]; omega)]; simp
            rw [this]
            exact hW.write hg h1
          · rw [if_neg hw] at h
            obtain ⟨⟨hd, hj⟩, h⟩ := h
            cases hu : cs.upd j d with
            | none => simp [hu] at h
            | some c1 =>
              simp only [hu] at h
              obtain ⟨e1, e2⟩ := Cells.upd_ok cs j d c1 hu (by omega)
              have hones : ∀ v ∈ d.vals, v.oneCell' = true := by
                intro y hy
                refine Cells.ones_ok c1 (Cells.upd_ones cs j d c1 hu h1c) y ?_
                rw [e1]; simp [hy]
              have hr := store_run (P := P) hi hW hg (V := (ev env v).conc) (vs := d.vals) (j := j) hVc (by rw [Cells.vals_length, hd]) (by rw [Cells.vals_length]; omega) hones
              rw [← evv] at hr
              refine wp_of_skip (hexec _ (by rw [ex]; exact hr)) ⟨.bad, _, _, undef, .inl rfl, rfl, ?_, fun h => (by rw [hq] at h; cases h), Frm.row hg rfl _, Near.setOwn hg, h⟩
              rw [← e1]
              exact hW.write hg (Cells.upd_ones cs j d c1 hu h1c)
      · rw [if_neg ha] at h
        obtain ⟨hj, h⟩ := h
        cases hset : cs.set j (ev env v) with
        | none => simp [hset] at h
        | some c1 =>
          simp only [hset] at h
          obtain ⟨e1, e2, e3, e4⟩ := Cells.set_ok cs j _ c1 hset
          have hgood : (ev env v).good = true := by
            cases hv : ev env v <;> first | rfl | exact absurd hv e4
          have evv := ev_is hE (x := v) rfl hgood
          have hcells : (ev env v).conc.cells = #[(ev env v).conc] := by revert e3; cases (ev env v).conc <;> simp [Value.oneCell', Value.cells]
          have hr := store_run (P := P) hi hW hg (V := (ev env v).conc) (vs := [(ev env v).conc]) (j := j) hcells (by simpa using (hi.one (by simpa using ha)).symm) (by simp; omega) (by intro y hy; rw [List.mem_singleton.1 hy]; exact e3)
          rw [← evv] at hr
          refine wp_of_skip (hexec _ (by rw [ex]; exact hr)) ⟨.bad, _, _, undef, .inl rfl, rfl, ?_, fun h => (by rw [hq] at h; cases h), Frm.row hg rfl _, Near.setOwn hg, h⟩
          have : cs.vals.take j ++ [a.eval v] ++ cs.vals.drop (j + [a.eval v].length) = c1.vals := by
            rw [e1, evv, List.set_eq_take_append_cons_drop, if_pos (by rw [Cells.vals_length]; exact hj)]; simp
          rw [this]
          exact hW.write hg (Cells.set_ones cs j _ c1 hset h1c)
    | _ => exact h.elim
theorem MRel.frozen {W : World} {l : Nat} {v : Value} {e : TypeId} {cs : Cells} (h : MRel pv w0 mem W) (hg : getA mem l = some (.row v e cs)) : ∃ A c, v = .slice A cs.len c ∧ cs.len ≤ c ∧ MRel pv w0 ((l, .ro A c cs) :: delA mem l) W := by
  have h2 := h.freeze hg
  obtain ⟨A, c, h3, h4, h5, h6⟩ := h2.ok l (.frow v cs) (by simp [getA])
  refine ⟨A, c, h3, h4, (h.drop l).add l _ ⟨h5, h4, fun k hk => h6 k (blkC_A hk)⟩ fun l' e' he' hm k hk hk' => ?_⟩
  have hl : l ≠ l' := fun hl => by
    subst hl
    rw [getA_delA, if_pos rfl] at he'; cases he'
  have hm' : e'.mine = true := hm.resolve_left (by simp [ME.mine])
  refine h2.sep l' e' l _ (by simp only [getA, if_neg hl]; exact he') (show getA ((l, .frow v cs) :: delA mem l) l = some (.frow v cs) by simp [getA]) (Ne.symm hl) hm' k hk' ?_
  subst h3
  replace hk := blkC_A hk
  cases A with
  | none => cases hk
  | some a => exact hk
theorem storeG_ok (hTT : TTok P tt) (hE : ERel ds env a N) {o : Oper} {t : TypeId} {x v : Operand} (ho : o.op = .store t x v) {i : TI} (ht : tt t = some i) {Q : Exit → Act → World → Prop}
    (h : storeGVC mem i (ev env x) (ev env v) fun mem => K .bad mem nx) {W : World} (hW : MRel pv w0 mem W) : o.wp P a W (Post pv w0 mem o.op W o.dst a K) Q := by
  unfold storeGVC at h
  split at h
  · rename_i l u n hv
    split at h
    · rename_i u' e cs hg
      obtain ⟨⟨rfl, rfl⟩, h⟩ := h
      obtain ⟨A, c, rfl, hlc, hM⟩ := hW.frozen hg
      have h := h A c hlc
      cases v with
      | tmp d =>
        have hE2 : ERel ds ((d, .ros l A cs.len c) :: env) a N := hE.again (d := d) (v := .grow l (.slice A cs.len c) cs.len) (by simp only [ev] at hv; cases hd : getA env d with | none => rw [hd] at hv; cases hv | some y => rw [hd] at hv; exact congrArg some hv) (by simp) rfl
        have hx : ev ((d, .ros l A cs.len c) :: env) x = ev env x ∨ x = .tmp d := by
          cases x with
          | tmp k =>
            by_cases hk : d = k
            · subst hk; exact .inr rfl
            · left; simp only [ev, getA, if_neg hk]
          | _ => exact .inl rfl
        rcases hx with hx | rfl
        · have := store_ok (mem := (l, .ro A c cs) :: delA mem l) (K := K) (nx := nx) hTT hE2 (o := o) (x := x) (v := .tmp d) ho ht (Q := Q) (by rw [hx]; simp only [ev, getA, if_pos, Option.getD_some]; exact h) hM
          refine Oper.wp_mono (fun a' W' hp => ?_) this
          obtain ⟨v', m, n', V, g1, g2, g3, g4, g5, g6, g7⟩ := hp
          have hb : ∀ k, blkOf ((l, .ro A c cs) :: delA mem l) k → blkOf mem k := fun k ⟨l', e', he', hk'⟩ => by
            simp only [getA] at he'
            split at he'
            · injection he' with he'; subst he'
              refine ⟨l, _, hg, ?_⟩
              replace hk' := blkC_A hk'
              cases A with
              | none => cases hk'
              | some ad => exact hk'
            · rw [getA_delA] at he'
              split at he'
              · cases he'
              · exact ⟨l', e', he', hk'⟩
          exact ⟨v', m, n', V, g1, g2, g3, g4, ⟨g5.1, fun k hk hn => g5.2 k hk fun hh => hn (hb k hh)⟩, fun l' e' k he' hk => (g6 l' e' k he' hk).imp (fun ⟨l0, e0, h0, h1⟩ => hb k ⟨l0, e0, h0, h1⟩) id, g7⟩
        · rw [hv] at h; exact h.elim
      | const y =>
        simp only [ev, absC] at hv
        (repeat' split at hv) <;> cases hv
      | global y => cases hv
      | func y => cases hv
    · exact h.elim
  · exact store_ok hTT hE ho ht h hW
/-- Anything that is read is appended to a row of the call's own. -/
theorem run_append_any {W : World} (base : Nat) {t e : TypeId} {ie : TI} (hTe : TIok P e ie) (ht : P.underlying t = some (.slice e)) (hs : ie.size = 1) (hb0 : 0 < ie.bytes) (ty : TypeId) (v : Value) (xs : List Value) (ys : List Value) (h1 : ∀ y ∈ ys, y.oneCell' = true) (A : Option Addr) (c : Nat)
    (HO : W.ownsRow base e 1 v xs.length xs) (HR : Sl id W A ys) (hbase : base ≤ W.heap.size) (hl : (xs.length + ys.length) * ie.bytes ≤ 140737488355328) :
    ∃ v1 w1, (Builtin.append_ #[t, t] ty #[v, .slice A ys.length c]).run P W = .ok v1 w1 ∧ w1.ownsRow base e 1 v1 (xs.length + ys.length) (xs ++ ys) ∧ W.grownBy w1 v.ownBlock ∧ (v1.ownBlock = v.ownBlock ∨ v1.ownBlock = some W.heap.size) := by
  obtain ⟨i0, hi, hzz⟩ := Option.map_eq_some_iff.1 hTe.info
  simp only [Prod.mk.injEq] at hzz
  obtain ⟨hz0, hz1, hz2⟩ := hzz
  have hz : ie.zeroV.cells.size = 1 := by rw [hTe.zcells]; simp [Cells.vals_length, hTe.len, hs]
  have hlen : xs.length + ys.length ≤ 140737488355328 := Nat.le_trans (Nat.le_mul_of_pos_right _ hb0) hl
  rcases Nat.eq_zero_or_pos ys.length with h0 | h0
  · obtain rfl : ys = [] := List.eq_nil_of_length_eq_zero h0
    refine ⟨v, W, ?_, by simpa using HO, World.grownBy.refl W _, .inl rfl⟩
    rcases HO.2 with ⟨rfl, hn⟩ | ⟨g, cap, cur, rfl, _, hg, hnc, hcm, hcs, _⟩
    · cases A <;> simp [Builtin.append_, run_underlying ht, sizeOf, typeInfo, hi, Builtin.lenOf, Builtin.firstCells, loadCells, loadCellsFrom]
    · cases A with
      | none => simp [Builtin.append_, run_underlying ht, sizeOf, typeInfo, hi, Builtin.lenOf, Builtin.firstCells, hnc, storeCells]
      | some ad => simp [Builtin.append_, run_underlying ht, sizeOf, typeInfo, hi, Builtin.lenOf, Builtin.firstCells, hnc, storeCells, loadCells, loadCellsFrom]
  · obtain ⟨b, o1, rfl, hcells⟩ := HR.all h0
    obtain ⟨v1, w1, hr, h2, h3, _, h5⟩ := run_append_own_at (P := P) W base t ty e i0 _ 1 ie.bytes ht hi hz0 (by rw [hz1, hs]) hz2 hz (by omega) v xs.length xs HO ⟨b, o1, none⟩ ys.length c ys (by simp)
      (by
        intro j u hu
        rw [addA]
        exact hcells j u hu) h1 (by simp only [maxLen]; omega) hl hbase
    exact ⟨v1, w1, hr, h2, h3, h5⟩
/-- Anything that is read is appended to a slice that is full. -/
theorem run_append_full {W : World} {t e : TypeId} {ie : TI} (hTe : TIok P e ie) (ht : P.underlying t = some (.slice e)) (hs : ie.size = 1) (hb0 : 0 < ie.bytes) (ty : TypeId) (B : Option Addr) (xs : List Value) (ys : List Value) (h1 : ∀ y ∈ ys, y.oneCell' = true) (A : Option Addr) (c : Nat)
    (HX : Sl id W B xs) (HR : Sl id W A ys) (hl : (xs.length + ys.length) * ie.bytes ≤ 140737488355328) :
    ∃ v1 w1, (Builtin.append_ #[t, t] ty #[.slice B xs.length xs.length, .slice A ys.length c]).run P W = .ok v1 w1 ∧ W.grownBy w1 none ∧ ((ys = [] ∧ v1 = .slice B xs.length xs.length ∧ w1 = W) ∨ w1.ownsRow W.heap.size e 1 v1 (xs.length + ys.length) (xs ++ ys)) := by
  obtain ⟨i0, hi, hzz⟩ := Option.map_eq_some_iff.1 hTe.info
  simp only [Prod.mk.injEq] at hzz
  obtain ⟨hz0, hz1, hz2⟩ := hzz
  have hz : ie.zeroV.cells.size = 1 := by rw [hTe.zcells]; simp [Cells.vals_length, hTe.len, hs]
  have hlen : xs.length + ys.length ≤ 140737488355328 := Nat.le_trans (Nat.le_mul_of_pos_right _ hb0) hl
  rcases Nat.eq_zero_or_pos ys.length with h0 | h0
  · obtain rfl : ys = [] := List.eq_nil_of_length_eq_zero h0
    refine ⟨_, W, ?_, World.grownBy.refl W _, .inl ⟨rfl, rfl, rfl⟩⟩
    cases B with
    | none => cases A <;> simp [Builtin.append_, run_underlying ht, sizeOf, typeInfo, hi, Builtin.lenOf, Builtin.firstCells, loadCells, loadCellsFrom]
    | some b =>
      cases A with
      | none => simp [Builtin.append_, run_underlying ht, sizeOf, typeInfo, hi, Builtin.lenOf, Builtin.firstCells, storeCells]
      | some ad => simp [Builtin.append_, run_underlying ht, sizeOf, typeInfo, hi, Builtin.lenOf, Builtin.firstCells, storeCells, loadCells, loadCellsFrom]
  · obtain ⟨b, o1, rfl, hcells⟩ := HR.all h0
    cases B with
    | none =>
      have hx : xs = [] := by
        cases xs with
        | nil => rfl
        | cons y r =>
          obtain ⟨b, o1, hA, _⟩ := HX.2 0 y rfl
          cases hA
      subst hx
      obtain ⟨v1, w1, hr, h2, h3, _, h5⟩ := run_append_own_at (P := P) W W.heap.size t ty e i0 _ 1 ie.bytes ht hi hz0 (by rw [hz1, hs]) hz2 hz (by omega) (.slice none 0 0) 0 [] (World.ownsRow_nil W _ e 1) ⟨b, o1, none⟩ ys.length c ys (by simp)
        (by
          intro j u hu
          rw [addA]
          exact hcells j u hu) h1 (by simp only [maxLen]; omega) (by simpa using hl) (Nat.le_refl _)
      exact ⟨v1, w1, hr, h3, .inr (by simpa using h2)⟩
    | some bb =>
      have hbx : ∀ j u, xs[j]? = some u → W.cell? (bb.add j) = some u := fun j u hu => by
        obtain ⟨b2, o2, hA, hc⟩ := HX.2 j u hu
        injection hA with hA; subst hA
        rw [addA]; exact hc
      obtain ⟨v1, w1, hr, h2, h3⟩ := run_append_arg_grows (P := P) W t ty e i0 _ 1 ie.bytes ht hi hz0 (by rw [hz1, hs]) hz2 hz (by omega) bb xs.length xs.length xs (by simp) hbx ⟨b, o1, none⟩ ys.length c ys (by simp)
        (by
          intro j u hu
          rw [addA]
          exact hcells j u hu) (by omega) (by simp only [maxLen]; omega) hl
      exact ⟨v1, w1, hr, h3, .inr h2⟩
theorem blk_own (v : Value) : blkV v = v.ownBlock := by
  cases v <;> first | rfl | (rename_i A _ _; cases A <;> rfl)
theorem MRel.rename {W : World} (h : MRel pv w0 mem W) {l n : Nat} {e : ME} (he : getA mem l = some e) : MRel pv w0 ((n, e) :: delA mem l) W := by
  refine (h.drop l).add n e (h.ok l e he) fun l' e' he' hm k hk hk' => ?_
  rw [getA_delA] at he'
  split at he'
  · cases he'
  · rename_i hne
    rcases hm with hm | hm
    · exact h.sep l e l' e' he he' (Ne.symm hne) hm k hk hk'
    · exact h.sep l' e' l e he' he hne hm k hk' hk
/-- A row that has grown. -/
theorem MRel.grow {W W' : World} (h : MRel pv w0 mem W) {l n : Nat} {e e1 : ME} (he : getA mem l = some e) (hmine : e.mine = true) {row : Option Nat} (hrow : ∀ k, row = some k → e.blk = some k) (hg : W.grownBy W' row) (he1 : MEok pv w0 W' e1) (hblk : e1.blk = e.blk ∨ ∀ k, e1.blk = some k → W.heap.size ≤ k) : MRel pv w0 ((n, e1) :: delA mem l) W' := by
  have hb : Below w0.heap.size w0 W' := by
    refine h.below.trans ⟨hg.os, hg.tape, hg.output, hg.size, fun k hk => hg.block k (Nat.lt_of_lt_of_le hk h.size) fun e2 => ?_⟩
    have h2 := hrow k e2.symm
    have h3 := h.ok l e he
    cases e with
    | own g t cs => injection h2 with h2; have := h3.2.1; omega
    | fix g o => cases hmine
    | frow v cs => cases hmine
    | ro A c cs => cases hmine
    | row v e cs =>
      rcases h3.1.2 with ⟨rfl, _⟩ | ⟨g, cap, cur, rfl, hg0, _⟩
      · cases h2
      · injection h2 with h2; have h4 : g = k := h2; omega
  have ht := h.turn l e e1 he hb he1 (hblk.imp (fun e2 k hk => by rw [← e2]; exact hk) id) (fun _ => hmine) hmine hg.size fun k hk hne => hg.block k hk fun e2 => hne (hrow k e2.symm)
  have hr := ht.rename (l := l) (n := n) (e := e1) (by rw [getA_setA, if_pos rfl, he]; rfl)
  exact hr.less fun k d hd => by
    simp only [getA] at hd ⊢
    split
    · rw [if_pos (by assumption)] at hd; exact hd
    · rw [if_neg (by assumption)] at hd
      rw [getA_delA] at hd ⊢
      split at hd
      · cases hd
      · rename_i hne; rw [if_neg hne, getA_setA, if_neg hne]; exact hd
theorem app_ok (hTT : TTok P tt) (hE : ERel ds env a N) {o : Oper} {t : TypeId} {s x : Operand} (ho : o.op = .call { callee := .builtin .append, args := #[s, x], argTypes := #[t, t] }) {Q : Exit → Act → World → Prop}
    (h : appVC tt mem nx t (ev env s) (ev env x) K) {W : World} (hW : MRel pv w0 mem W) : o.wp P a W (Post pv w0 mem o.op W o.dst a K) Q := by
  have hq : quietOp o.op = false := by rw [ho]; rfl
  unfold appVC at h
  cases ht : tt t with
  | none => simp [ht] at h
  | some i =>
    simp only [ht] at h
    cases hd : i.dsc <;> simp only [hd] at h <;> try exact h.elim
    rename_i e
    have hu : P.underlying t = some (.slice e) := by have := (hTT t i ht).dsc; rw [hd] at this; exact this
    cases he : tt e with
    | none => simp [he] at h
    | some ie =>
      simp only [he] at h
      obtain ⟨⟨hs1, hb0⟩, h⟩ := h
      obtain ⟨ys, h, hgx, hr⟩ := rd_run (pv := pv) (w0 := w0) h
      obtain ⟨A, c, hxc, hlc, hsl, hblkA⟩ := hr W hW
      have hTe := hTT e ie he
      have ex := ev_is hE (x := x) rfl hgx
      have hexec : ∀ v1 w1, (Builtin.append_ #[t, t] o.type #[a.eval s, a.eval x]).run P W = .ok v1 w1 → (execOp a.eval o).run P W = .ok (.value v1) w1 := fun v1 w1 hr => by
        unfold execOp
        simp only [ho, resolve, invoke, builtin, Sem.run_bind, Sem.run_pure, Result.andThen_ok, List.map_toArray, List.map_cons, List.map_nil, hr]
      have hylen := Cells.vals_length ys
      cases hsv : ev env s <;> simp only [hsv] at h <;> try exact h.elim
      · -- into a block of the call's own
        rename_i l g off len cap
        have es := ev_is hE hsv rfl
        cases hg : getA mem l with
        | none => simp [hg] at h
        | some me =>
          rw [hg] at h
          cases me with
          | own g' u cs =>
            obtain ⟨⟨rfl, rfl, rfl, hlc1, rfl, hcap⟩, h⟩ := h
            cases hcat : (cs.part 0 len).cat ys with
            | none => simp [hcat] at h
            | some zs =>
              simp only [hcat] at h
              obtain ⟨⟨hbz, hzl, h1⟩, hK⟩ := h
              obtain ⟨e1, e2⟩ := Cells.cat_ok _ _ _ hcat
              obtain ⟨ow, hgb, hones⟩ := hW.ok _ _ hg
              have hpv : (cs.part 0 len).vals.length = len := by rw [Cells.vals_length, Cells.part_len]; omega
              have hO : W.ownsRow w0.heap.size u 1 (.slice (some ⟨g', 0, none⟩) len cs.len) (cs.part 0 len).vals.length (cs.part 0 len).vals := by
                refine ⟨by simp, .inr ⟨g', cs.len, cs.vals.toArray, by rw [hpv], hgb, ow, by omega, by unfold maxLen; omega, by simp [Cells.vals_length], ?_⟩⟩
                rw [hpv, Cells.vals_part]; simp
              obtain ⟨v1, w1, hrun, hown, hgr, hwh⟩ := run_append_any (P := P) w0.heap.size hTe hu hs1 hb0 o.type _ _ ys.vals (Cells.ones_ok ys h1) A c hO hsl hW.size (by rw [hpv, hylen, ← hzl]; exact hbz)
              have hzo : zs.ones = true := by
                refine Cells.cat_ones _ _ _ hcat ?_
                exact Cells.part_ones _ _ _ hones
              refine wp_of_value (hexec v1 w1 (by rw [es, ex, hxc, ← hylen]; exact hrun)) ⟨_, _, _, v1, .inr rfl, rfl, hW.grow (e1 := .row v1 u zs) hg rfl (row := some g') (fun k hk => by injection hk with hk; rw [← hk]; rfl) hgr ⟨?_, hzo⟩ ?_, fun h => (by rw [hq] at h; cases h), ⟨hgr.size, fun k hk hn => hgr.block k hk fun e2 => hn ⟨l, _, hg, by injection e2 with e2; rw [e2]; rfl⟩⟩, Near.put fun k hk => ?_, hK v1⟩
              · rw [e1]
                rw [hpv, hylen, ← hzl] at hown
                exact hown
              · rcases hwh with hwh | hwh
                · left; simp only [ME.blk, blk_own, hwh]; rfl
                · right; intro k hk; simp only [ME.blk, blk_own, hwh] at hk; injection hk with hk; omega
              · simp only [ME.blk, blk_own] at hk
                rcases hwh with hwh | hwh
                · rw [hwh] at hk; injection hk with hk; exact .inl ⟨l, _, hg, by rw [← hk]; rfl⟩
                · rw [hwh] at hk; injection hk with hk; right; omega
          | _ => exact h.elim
      · rename_i l B n cB
        have es := ev_is hE hsv rfl
        cases hg : getA mem l with
        | none => simp [hg] at h
        | some me =>
          rw [hg] at h
          cases me with
          | ro B' c' cs =>
            obtain ⟨⟨rfl, rfl, rfl, rfl⟩, h⟩ := h
            cases hcat : cs.cat ys with
            | none => simp [hcat] at h
            | some zs =>
              simp only [hcat] at h
              obtain ⟨⟨hbz, hcs1, h1⟩, hK⟩ := h
              obtain ⟨e1, e2⟩ := Cells.cat_ok _ _ _ hcat
              obtain ⟨hslB, _, hbB⟩ := hW.ok _ _ hg
              have hcl := Cells.vals_length cs
              obtain ⟨v1, w1, hrun, hgr, hwh⟩ := run_append_full (P := P) hTe hu hs1 hb0 o.type B' cs.vals ys.vals (Cells.ones_ok ys h1) A c hslB hsl (by rw [hcl, hylen, ← e2]; exact hbz)
              rw [hcl, hylen] at hrun
              have hex := hexec v1 w1 (by rw [es, ex, hxc]; exact hrun)
              have hB : Below W.heap.size W w1 := ⟨hgr.os, hgr.tape, hgr.output, hgr.size, fun k hk => hgr.block k hk (by simp)⟩
              obtain ⟨A1, c1, hv1, hlc1, hsl1, hfr⟩ : ∃ A1 c1, v1 = .slice A1 zs.len c1 ∧ zs.len ≤ c1 ∧ Sl id w1 A1 zs.vals ∧ ∀ k, blkC A1 c1 = some k → (blkC B' (cs.len + cs.len) = some k ∨ W.heap.size ≤ k) ∧ k < w1.heap.size := by
                rcases hwh with ⟨hy0, rfl, rfl⟩ | hown
                · have hyl : ys.len = 0 := by rw [← hylen, hy0]; rfl
                  rw [hcl]
                  refine ⟨B', cs.len, by rw [e2, hyl, Nat.add_zero], by rw [e2, hyl]; exact Nat.le_refl _, by rw [e1, hy0, List.append_nil]; exact hslB, fun k hk => ⟨.inl (blkC_up _ hk), (hbB k (blkC_up _ hk)).1⟩⟩
                · have hown' : w1.ownsRow W.heap.size e 1 v1 zs.len (zs.vals.map id) := by rw [List.map_id, e1, e2, ← hcl, ← hylen]; exact hown
                  obtain ⟨A1, c1, g1, g2, g4, g5⟩ := owns_sl hown'
                  refine ⟨A1, c1, g1, g2, g5, fun k hk => ?_⟩
                  have hbk : blkV v1 = some k := by
                    subst g1
                    replace hk := blkC_A hk
                    cases A1 with
                    | none => cases hk
                    | some a => exact hk
                  rcases hown.2 with ⟨rfl, _⟩ | ⟨g, cap, cur, rfl, hg0, hgg, _⟩
                  · cases hbk
                  · injection hbk with hbk
                    subst hbk
                    exact ⟨.inr hg0, (Array.getElem?_eq_some_iff.1 hgg).1⟩
              subst hv1
              refine wp_of_value hex ⟨_, _, _, _, .inr rfl, rfl, (hW.down hB).add nx (.ro A1 c1 zs) ⟨hsl1, hlc1, fun k hk => ⟨(hfr k (blkC_dn hlc1 hk)).2, ?_⟩⟩ ?_, fun h => (by rw [hq] at h; cases h), Frm.of_below _ hB, Near.cons fun k hk => ?_, hK A1 c1 hlc1⟩
              · rcases (hfr k (blkC_dn hlc1 hk)).1 with hk | hk
                · exact (hbB k hk).2
                · exact .inl (Nat.le_trans hW.size hk)
              · intro l' e' he' hm k hk hk'
                have hm' : e'.mine = true := hm.resolve_left (by simp [ME.mine])
                rcases (hfr k (blkC_dn hlc1 hk)).1 with hk2 | hk2
                · by_cases hl : l' = l
                  · subst hl; rw [hg] at he'; injection he' with he'; subst he'; cases hm'
                  · exact hW.sep l' e' l _ he' hg hl hm' k hk' hk2
                · have := (hW.ok _ _ he').blk_lt k hk'
                  omega
              · rcases (hfr k (blkC_dn hlc1 hk)).1 with hk2 | hk2
                · exact .inl ⟨l, _, hg, hk2⟩
                · exact .inr hk2
          | _ => exact h.elim
      · rename_i l v n
        have es := ev_is hE hsv rfl
        cases hg : getA mem l with
        | none => simp [hg] at h
        | some me =>
          rw [hg] at h
          cases me with
          | row v' e' cs =>
            obtain ⟨⟨rfl, rfl, hn⟩, h⟩ := h
            cases hcat : cs.cat ys with
            | none => simp [hcat] at h
            | some zs =>
              simp only [hcat] at h
              obtain ⟨⟨hbz, h1⟩, hK⟩ := h
              obtain ⟨e1, e2⟩ := Cells.cat_ok _ _ _ hcat
              obtain ⟨ow, hones⟩ := hW.ok _ _ hg
              have hcl := Cells.vals_length cs
              rw [← hcl] at ow
              obtain ⟨v1, w1, hrun, hown, hgr, hwh⟩ := run_append_any (P := P) w0.heap.size hTe hu hs1 hb0 o.type _ _ ys.vals (Cells.ones_ok ys h1) A c ow hsl hW.size (by rw [hcl, hylen, ← e2]; exact hbz)
              refine wp_of_value (hexec v1 w1 (by rw [es, ex, hxc, ← hylen]; exact hrun)) ⟨_, _, _, v1, .inr rfl, rfl, hW.grow (e1 := .row v1 e' zs) hg rfl (row := v'.ownBlock) (fun k hk => by simp only [ME.blk, blk_own]; exact hk) hgr ⟨?_, Cells.cat_ones _ _ _ hcat hones⟩ ?_, fun h => (by rw [hq] at h; cases h), ⟨hgr.size, fun k hk hn => hgr.block k hk fun e2 => hn ⟨l, _, hg, by simp only [ME.blk, blk_own]; exact e2.symm⟩⟩, Near.put fun k hk => ?_, hK v1⟩
              · rw [e1]
                rw [hcl, hylen, ← e2] at hown
                exact hown
              · rcases hwh with hwh | hwh
                · left; simp only [ME.blk, blk_own, hwh]
                · right; intro k hk; simp only [ME.blk, blk_own, hwh] at hk; injection hk with hk; omega
              · simp only [ME.blk, blk_own] at hk
                rcases hwh with hwh | hwh
                · rw [hwh] at hk; exact .inl ⟨l, _, hg, by simp only [ME.blk, blk_own]; exact hk⟩
                · rw [hwh] at hk; injection hk with hk; right; omega
          | _ => exact h.elim
      · have es := ev_is hE hsv rfl
        obtain ⟨⟨hbz, h1⟩, hK⟩ := h
        obtain ⟨v1, w1, hrun, hown, hgr, hwh⟩ := run_append_any (P := P) w0.heap.size hTe hu hs1 hb0 o.type (.slice none 0 0) [] ys.vals (Cells.ones_ok ys h1) A c (World.ownsRow_nil W _ e 1) hsl hW.size (by rw [hylen]; simpa using hbz)
        refine wp_of_value (hexec v1 w1 (by rw [es, ex, hxc, ← hylen]; exact hrun)) ⟨_, _, _, v1, .inr rfl, rfl, ?_, fun h => (by rw [hq] at h; cases h), ⟨hgr.size, fun k hk hn => hgr.block k hk (by simp [Value.ownBlock])⟩, Near.cons fun k hk => ?_, hK v1⟩
        rotate_left
        · simp only [ME.blk, blk_own] at hk
          rcases hwh with hwh | hwh
          · rw [hwh] at hk; cases hk
          · rw [hwh] at hk; injection hk with hk; right; omega
        have hB : Below W.heap.size W w1 := ⟨hgr.os, hgr.tape, hgr.output, hgr.size, fun k hk => hgr.block k hk (by simp [Value.ownBlock])⟩
        refine (hW.down hB).add nx (.row v1 e ys) ⟨by simpa [hylen] using hown, h1⟩ fun l' e' he' _ k hk hk' => ?_
        have hlt := (hW.ok _ _ he').blk_lt k hk'
        simp only [ME.blk, blk_own] at hk
        rcases hwh with hwh | hwh
        · rw [hwh] at hk; cases hk
        · rw [hwh] at hk; injection hk with hk; omega
end
end Go.Proofs.Ytlcaobnojbkmbaa
/- A row that grows by so many zeros. For any program. -/
namespace Go.Proofs.Ytlcaobnojbkmbaa
open Go Go.RowKit
set_option linter.unusedVariables false
set_option linter.unusedSimpArgs false
variable {ds : List Deferred}
section
variable {P : Program}
theorem zeroCells_one (z : Value) (n : Nat) : Builtin.zeroCells #[z] n = (List.replicate n z).toArray := by
  unfold Builtin.zeroCells
  apply Array.ext
  · simp
  · intro i h1 h2
    simp [Nat.mod_one]
theorem run_append_zero {W : World} (base : Nat) {t u e : TypeId} {ie : TI} (hTe : TIok P e ie) (ht : P.underlying t = some (.slice e)) (hu : P.underlying u = some (.int .i64)) (hs : ie.size = 1) (hb0 : 0 < ie.bytes) (ty : TypeId) (z : Value) (hz : ie.zeroV.cells = #[z]) (h1 : z.oneCell' = true) (v : Value) (xs : List Value) (n : Nat)
    (HO : W.ownsRow base e 1 v xs.length xs) (hbase : base ≤ W.heap.size) (hl : (xs.length + n) * ie.bytes ≤ 140737488355328) :
    ∃ v1 w1, (Builtin.append_ #[t, u] ty #[v, .int .i64 n]).run P W = .ok v1 w1 ∧ w1.ownsRow base e 1 v1 (xs.length + n) (xs ++ List.replicate n z) ∧ W.grownBy w1 v.ownBlock ∧ (v1.ownBlock = v.ownBlock ∨ v1.ownBlock = some W.heap.size) := by
  obtain ⟨i0, hi, hzz⟩ := Option.map_eq_some_iff.1 hTe.info
  simp only [Prod.mk.injEq] at hzz
  obtain ⟨hz0, hz1, hz2⟩ := hzz
  have hlen : xs.length + n ≤ 140737488355328 := Nat.le_trans (Nat.le_mul_of_pos_right _ hb0) hl
  have hnb : n * ie.bytes ≤ 140737488355328 := Nat.le_trans (Nat.mul_le_mul_right _ (Nat.le_add_left _ _)) hl
  have hnbI : ¬ (281474976710656 < (n : Int) * (ie.bytes : Int)) := by
    rw [← Int.natCast_mul]; omega
  have hw : IntKind.i64.wrap (n : Int) = n := IntWalk.i64_in _ (by omega)
  have hn0 : ¬ (n : Int) < 0 := by omega
  have hlr : (xs ++ List.replicate n z).length = xs.length + n := by simp
  have grown : ∀ (old : Nat), old < xs.length + n → ∀ (row : Option Nat),
      (W.drew.alloc (.cells (xs.toArray ++ (List.replicate n z).toArray ++ Builtin.zeroCells #[z] (grownCap W (xs.length + n) old e - (xs.length + n))) e)).ownsRow base e 1
        (.slice (some ⟨W.heap.size, 0, none⟩) (xs.length + n) (grownCap W (xs.length + n) old e)) (xs.length + n) (xs ++ List.replicate n z) ∧
      W.grownBy (W.drew.alloc (.cells (xs.toArray ++ (List.replicate n z).toArray ++ Builtin.zeroCells #[z] (grownCap W (xs.length + n) old e - (xs.length + n))) e)) row := by
    intro old ho row
    have hge := grownCap_ge W (xs.length + n) old e
    have hcm : grownCap W (xs.length + n) old e ≤ maxLen := grownCap_le_maxLen W (xs.length + n) old e (by unfold maxLen; omega)
    refine ⟨⟨by rw [hlr, Nat.mul_one], .inr ⟨W.heap.size, _, _, rfl, hbase, heap_alloc_new W.drew _, hge, hcm, ?_, ?_⟩⟩, ⟨rfl, rfl, rfl, by simp, fun k hk _ => heap_alloc_old W.drew _ hk⟩⟩
    · simp only [Array.size_append, List.size_toArray, size_zeroCells, List.length_replicate, List.size_toArray, List.length_cons, List.length_nil, Nat.zero_add, Nat.mul_one]
      omega
    · simp only [Array.toList_append]
      rw [Nat.mul_one, ← hlr]
      exact List.take_left
  rcases HO.2 with ⟨rfl, hn⟩ | ⟨g, cap, cur, rfl, hbg, hg, hnc, hcm, hcs, htake⟩
  · have hx : xs = [] := List.eq_nil_of_length_eq_zero hn
    subst hx
    by_cases hm : n = 0
    · subst hm
      refine ⟨.slice none 0 0, W, ?_, World.ownsRow_nil W base e 1, ⟨rfl, rfl, rfl, Nat.le_refl _, fun _ _ _ => rfl⟩, Or.inl rfl⟩
      have hw0 : IntKind.i64.wrap 0 = 0 := hw
      simp [Builtin.append_, run_underlying ht, run_underlying hu, sizeOf, typeInfo, hi, asInt, asIntOf, hw0]
    · have hgr := grown 0 (by simp; omega) (Value.ownBlock (.slice none 0 0))
      refine ⟨_, _, ?_, hgr.1, hgr.2, Or.inr rfl⟩
      have h63' : ¬ (9223372036854775807 < (n : Int)) := by omega
      have h48' : ¬ (281474976710656 < Builtin.nextslicecap n 0 * ie.bytes) := by
        have := growslice_fits (need := n) (old := 0) (by omega) hnb
        omega
      have hzc := zeroCells_one z n
      simp [Builtin.append_, run_underlying ht, run_underlying hu, sizeOf, typeInfo, zeroValue, hi, hz0, hz1, hz2, hz, hs, asInt, asIntOf, hw, hn0, hm, hnbI, h63', h48', Question.forced, run_firstCells_none, newRow, grownCap, hzc]
  · by_cases hroom : xs.length + n ≤ cap
    · have hcl : cur.size = cap := by rw [hcs, Nat.mul_one]
      have hst := run_storeCells_at P g xs.length e (List.replicate n z) 0 cur W hg (by simp; omega) (fun x hx => by obtain ⟨_, rfl⟩ := List.mem_replicate.1 hx; exact h1)
      simp only [Nat.add_zero] at hst
      have hzc := zeroCells_one z n
      have hfa : (⟨g, 0, none⟩ : Addr).add xs.length = ⟨g, xs.length, none⟩ := by rw [addA]; simp
      refine ⟨.slice (some ⟨g, 0, none⟩) (xs.length + n) cap, W.setRow g (cur.toList.take xs.length ++ List.replicate n z ++ cur.toList.drop (xs.length + (List.replicate n z).length)).toArray, ?_, ?_, ?_, Or.inl rfl⟩
      rotate_left
      · refine ⟨by rw [hlr, Nat.mul_one], .inr ⟨g, cap, _, rfl, hbg, setRow_heap W g cur _ e _ hg, hroom, hcm, ?_, ?_⟩⟩
        · simp
          omega
        · rw [Nat.mul_one] at htake
          rw [Nat.mul_one, ← hlr]
          simp only [htake]
          exact List.take_left
      · exact ⟨rfl, rfl, rfl, by simp, fun k _ hk => setRow_other W g k _ (fun e => hk (by simp [Value.ownBlock, e]))⟩
      · by_cases hm : n = 0
        · subst hm
          have hw0 : IntKind.i64.wrap 0 = 0 := hw
          have hst' : (Result.ok () W : Result Unit) = _ := hst
          injection hst' with _ hst'
          rw [← hst']
          simp [Builtin.append_, run_underlying ht, run_underlying hu, sizeOf, typeInfo, hi, asInt, asIntOf, hw0, hnc, hz1, hs, storeCells]
        · simp [Builtin.append_, run_underlying ht, run_underlying hu, sizeOf, typeInfo, zeroValue, hi, hz0, hz1, hz2, hz, hs, asInt, asIntOf, hw, hn0, hm, hnbI, hroom, hzc, hfa, hst]
    · have holds : (Builtin.firstCells 1 xs.length (.slice (some ⟨g, 0, none⟩) xs.length cap)).run P W.drew = .ok xs.toArray W.drew :=
        run_firstCells_some (P := P) W.drew 1 xs.length ⟨g, 0, none⟩ xs.length cap xs (by rw [Nat.mul_one]) (by
          intro j v hj
          have := HO.cells (g := g) rfl j v hj
          simpa using this)
      have hgr := grown cap (by omega) (Value.ownBlock (.slice (some ⟨g, 0, none⟩) xs.length cap))
      refine ⟨_, _, ?_, hgr.1, hgr.2, Or.inr rfl⟩
      have hm : n ≠ 0 := by omega
      have h63' : ¬ (9223372036854775807 < ((xs.length : Int) + (n : Int))) := by omega
      have h48' : ¬ (281474976710656 < Builtin.nextslicecap (xs.length + n) cap * ie.bytes) := by
        have := growslice_fits (need := xs.length + n) (old := cap) (by omega) hl
        omega
      have hzc := zeroCells_one z n
      simp [Builtin.append_, run_underlying ht, run_underlying hu, sizeOf, typeInfo, zeroValue, hi, hz0, hz1, hz2, hz, hs, asInt, asIntOf, hw, hn0, hm, hnbI, hroom, h63', h48', Question.forced, holds, newRow, grownCap, hzc]
end
section
variable {P : Program} {pv : Nat → Prop} {w0 : World} {tt : TT} {env : Env} {mem : Mem} {nx : Nat} {a : Act} {N : Nat} {K : KO}
theorem apz_ok (hTT : TTok P tt) (hE : ERel ds env a N) {o : Oper} {t u : TypeId} {s x : Operand} (ho : o.op = .call { callee := .builtin .append, args := #[s, x], argTypes := #[t, u] }) {Q : Exit → Act → World → Prop}
    (h : apzVC tt mem nx t u (ev env s) (ev env x) K) {W : World} (hW : MRel pv w0 mem W) : o.wp P a W (Post pv w0 mem o.op W o.dst a K) Q := by
  have hq : quietOp o.op = false := by rw [ho]; rfl
  unfold apzVC at h
  cases ht : tt t with
  | none => simp [ht] at h
  | some i =>
    cases hut : tt u with
    | none => simp [ht, hut] at h
    | some j =>
      simp only [ht, hut] at h
      split at h
      · rename_i e n hd hdj hx
        have hu : P.underlying t = some (.slice e) := by have := (hTT t i ht).dsc; rw [hd] at this; exact this
        have huu : P.underlying u = some (.int .i64) := by have := (hTT u j hut).dsc; rw [hdj] at this; exact this
        cases he : tt e with
        | none => simp [he] at h
        | some ie =>
          simp only [he] at h
          obtain ⟨⟨hs1, hb0, hn0⟩, h⟩ := h
          have hTe := hTT e ie he
          have ex := ev_is hE hx rfl
          obtain ⟨n, rfl⟩ := Int.eq_ofNat_of_zero_le hn0
          cases hsv : ev env s <;> simp only [hsv] at h <;> try exact h.elim
          rename_i l v m
          have es := ev_is hE hsv rfl
          cases hg : getA mem l with
          | none => simp [hg] at h
          | some me =>
            rw [hg] at h
            cases me with
            | row v' e' cs =>
              obtain ⟨⟨rfl, rfl, hn⟩, h⟩ := h
              rw [Int.toNat_natCast] at h
              cases hcat : cs.cat (ie.zero.rep n) with
              | none => simp [hcat] at h
              | some zs =>
                simp only [hcat] at h
                obtain ⟨hbz, hK⟩ := h
                obtain ⟨e1, e2⟩ := Cells.cat_ok _ _ _ hcat
                obtain ⟨ow, hones⟩ := hW.ok _ _ hg
                have hcl := Cells.vals_length cs
                have hzl : ie.zero.len = 1 := by rw [hTe.len, hs1]
                obtain ⟨r1, r2, r3⟩ := Cells.rep_vals ie.zero n hzl hTe.ones
                have hzv : ie.zeroV.cells = #[ie.zero.vals.headD undef] := by
                  rw [hTe.zcells]
                  have : ie.zero.vals.length = 1 := by rw [Cells.vals_length, hzl]
                  obtain ⟨z, hz⟩ := List.length_eq_one_iff.1 this
                  rw [hz]; rfl
                have hz1 : (ie.zero.vals.headD undef).oneCell' = true := by
                  have : ie.zero.vals.length = 1 := by rw [Cells.vals_length, hzl]
                  obtain ⟨z, hz⟩ := List.length_eq_one_iff.1 this
                  rw [hz]
                  exact Cells.ones_ok _ hTe.ones z (by rw [hz]; simp)
                rw [← hcl] at ow
                obtain ⟨v1, w1, hrun, hown, hgr, hwh⟩ := run_append_zero (P := P) w0.heap.size hTe hu huu hs1 hb0 o.type _ hzv hz1 _ _ n ow hW.size (by rw [hcl, ← r2, ← e2]; exact hbz)
                have hexec : (execOp a.eval o).run P W = .ok (.value v1) w1 := by
                  unfold execOp
                  simp only [ho, resolve, invoke, builtin, Sem.run_bind, Sem.run_pure, Result.andThen_ok, List.map_toArray, List.map_cons, List.map_nil, es, ex]
                  have hrun' : (Builtin.append_ #[t, u] o.type #[(AV.grow l v' m).conc, (AV.int (n : Int)).conc]).run P W = .ok v1 w1 := hrun
                  simp only [hrun', Result.andThen_ok, Sem.run_pure]
                refine wp_of_value hexec ⟨_, _, _, v1, .inr rfl, rfl, hW.grow (n := l) (e1 := .row v1 e' zs) hg rfl (row := v'.ownBlock) (fun k hk => by simp only [ME.blk, blk_own]; exact hk) hgr ⟨?_, Cells.cat_ones _ _ _ hcat hones⟩ ?_, fun h => (by rw [hq] at h; cases h), ⟨hgr.size, fun k hk hn => hgr.block k hk fun e2 => hn ⟨l, _, hg, by simp only [ME.blk, blk_own]; exact e2.symm⟩⟩, Near.put fun k hk => ?_, hK v1⟩
                · rw [e1, e2, r2, r1, ← hcl]
                  exact hown
                · rcases hwh with hwh | hwh
                  · left; simp only [ME.blk, blk_own, hwh]
                  · right; intro k hk; simp only [ME.blk, blk_own, hwh] at hk; injection hk with hk; omega
                · simp only [ME.blk, blk_own] at hk
                  rcases hwh with hwh | hwh
                  · rw [hwh] at hk; exact .inl ⟨l, _, hg, by simp only [ME.blk, blk_own]; exact hk⟩
                  · rw [hwh] at hk; injection hk with hk; right; omega
            | _ => exact h.elim
      · exact h.elim
end
end Go.Proofs.Ytlcaobnojbkmbaa
/- A constant's bytes: the row gets its mark and is only read from then on. For any program. -/
namespace Go.Proofs.Ytlcaobnojbkmbaa
open Go Go.RowKit
set_option linter.unusedVariables false
set_option linter.unusedSimpArgs false
variable {ds : List Deferred}
section
variable {P : Program} {pv : Nat → Prop} {w0 : World} {tt : TT} {env : Env} {mem : Mem} {nx : Nat} {a : Act} {N : Nat} {K : KO}
theorem freeze_get (W : World) (g o k : Nat) : (W.freeze ⟨g, o, none⟩ 1).heap[k]? = if k = g then (W.freeze ⟨g, o, none⟩ 1).heap[g]? else W.heap[k]? := by
  by_cases h : k = g
  · rw [if_pos h, h]
  · rw [if_neg h]
    unfold World.freeze
    rw [if_neg (by decide)]
    simp only [Array.getElem?_modify]
    rw [if_neg (fun e => h e.symm)]
theorem freeze_size (W : World) (g o : Nat) : (W.freeze ⟨g, o, none⟩ 1).heap.size = W.heap.size := by
  unfold World.freeze
  rw [if_neg (by decide)]
  simp
theorem freeze_own {W : World} {g : Nat} {t : TypeId} {cs : Array Value} (h : Own W g t cs) (o : Nat) : (W.freeze ⟨g, o, none⟩ 1).heap[g]? = some (.cells cs t (o, o + 1)) := by
  unfold World.freeze
  rw [if_neg (by decide)]
  simp only [Array.getElem?_modify, if_true]
  rw [show W.heap[g]? = some (.cells cs t) from h]
  rfl
theorem mark_ok (hTT : TTok P tt) (hE : ERel ds env a N) {o : Oper} {t : TypeId} {x : Operand} (ho : o.op = .convert t t x) {l g off n c : Nat} (hx : ev env x = .slc l g off n c) {Q : Exit → Act → World → Prop}
    (h : markVC tt mem nx t l g off n c K) {W : World} (hW : MRel pv w0 mem W) : o.wp P a W (Post pv w0 mem o.op W o.dst a K) Q := by
  have hq : quietOp o.op = false := by rw [ho]; simp [quietOp]
  unfold markVC at h
  cases ht : tt t with
  | none => simp [ht] at h
  | some i =>
    simp only [ht] at h
    cases hd : i.dsc <;> simp only [hd] at h <;> try exact h.elim
    rename_i e
    have hu : P.underlying t = some (.slice e) := by have := (hTT t i ht).dsc; rw [hd] at this; exact this
    obtain ⟨he, h⟩ := h
    obtain ⟨ei, hei, hed⟩ := Option.map_eq_some_iff.1 he
    have hue : P.underlying e = some (.int .u8) := by have := (hTT e ei hei).dsc; rw [hed] at this; exact this
    cases hg : getA mem l with
    | none => simp [hg] at h
    | some me =>
      rw [hg] at h
      cases me with
      | own g' u cs =>
        obtain ⟨⟨rfl, hol, hnc, hcm⟩, hK⟩ := h
        obtain ⟨ow, hgb, hones⟩ := hW.ok _ _ hg
        have ex := ev_is hE hx rfl
        have hsh : W.shape? g' = some (u, cs.vals.toArray.size) := by
          unfold World.shape?
          rw [show W.heap[g']? = some (.cells cs.vals.toArray u) from ow]
        have hr : (convert t t (AV.slc l g' off n c).conc).run P W = .ok (AV.slc l g' off n c).conc (W.freeze ⟨g', cs.vals.toArray.size, none⟩ 1) := by
          simp [AV.conc, convert, run_underlying hu, run_underlying hue, markStringish, hsh]
        have hexec : (execOp a.eval o).run P W = .ok (.value (AV.slc l g' off n c).conc) (W.freeze ⟨g', cs.vals.toArray.size, none⟩ 1) := by
          unfold execOp
          simp only [ho, Sem.run_bind, ex, hr, Result.andThen_ok, Sem.run_pure]
        generalize hW' : W.freeze ⟨g', cs.vals.toArray.size, none⟩ 1 = W' at *
        have hsz : W'.heap.size = W.heap.size := by rw [← hW', freeze_size]
        have hoth : ∀ k, k ≠ g' → W'.heap[k]? = W.heap[k]? := fun k hk => by rw [← hW', freeze_get, if_neg hk]
        have hnew : W'.heap[g']? = some (.cells cs.vals.toArray u (cs.vals.toArray.size, cs.vals.toArray.size + 1)) := by rw [← hW', freeze_own ow]
        have hB0 : Below w0.heap.size W W' := by
          rw [← hW']
          refine ⟨?_, ?_, ?_, by rw [freeze_size]; exact Nat.le_refl _, fun k hk => by rw [freeze_get, if_neg (by omega)]⟩ <;> (unfold World.freeze; rw [if_neg (by decide)])
        have hlt : g' < W.heap.size := ow.lt
        have hpl : (cs.part off n).len = n := by rw [Cells.part_len]; omega
        have hro : MEok pv w0 W' (.ro (some ⟨g', off, none⟩) c (cs.part off n)) := by
          refine ⟨⟨by rw [Cells.vals_length, hpl]; omega, fun i x hx => ⟨g', off, rfl, ?_⟩⟩, by rw [hpl]; exact hnc, fun k hk => ?_⟩
          · unfold World.cell?
            rw [hnew]
            rw [Cells.vals_part] at hx
            have hi : i < n := by
              have := (List.getElem?_eq_some_iff.1 hx).1
              simp at this; omega
            rw [List.getElem?_take, if_pos hi, List.getElem?_drop] at hx
            simpa using hx
          · injection (blkC_A hk) with hk
            subst hk
            exact ⟨by rw [hsz]; exact hlt, .inl hgb⟩
        have ht2 := hW.turn l _ (.ro (some ⟨g', off, none⟩) c (cs.part off n)) hg (hW.below.trans hB0) hro (.inl fun k hk => blkC_A hk) (fun _ => rfl) rfl (by rw [hsz]; exact Nat.le_refl _) (fun k _ hk => hoth k fun e => hk (by rw [e]; rfl))
        have hr2 := ht2.rename (l := l) (n := nx) (by rw [getA_setA, if_pos rfl, hg]; rfl)
        refine wp_of_value hexec ⟨.ros nx (some ⟨g', off, none⟩) n c, (nx, .ro (some ⟨g', off, none⟩) c (cs.part off n)) :: delA mem l, nx + 1, _, .inr rfl, rfl, ?_, fun h => (by rw [hq] at h; cases h), ⟨by rw [hsz]; exact Nat.le_refl _, fun k _ hk => hoth k fun e => hk ⟨l, _, hg, by rw [e]; rfl⟩⟩, Near.put fun k hk => ?_, hK⟩
        · exact hr2.less fun k x hd => by
            simp only [getA] at hd ⊢
            split
            · rw [if_pos (by assumption)] at hd; exact hd
            · rw [if_neg (by assumption)] at hd
              rw [getA_delA] at hd ⊢
              split at hd
              · cases hd
              · rename_i hne; rw [if_neg hne, getA_setA, if_neg hne]; exact hd
        · injection (blkC_A hk) with hk
          exact .inl ⟨l, _, hg, by rw [← hk]; rfl⟩
      | _ => exact h.elim
end
end Go.Proofs.Ytlcaobnojbkmbaa
/- What is owed for each operation, told without a world: all operations are told rightly. For any program. -/
namespace Go.Proofs.Ytlcaobnojbkmbaa
open Go Go.RowKit
set_option linter.unusedVariables false
set_option linter.unusedSimpArgs false
variable {ds : List Deferred}
section
variable {P : Program} {tt : TT} {ct : CTab} {pv : Nat → Prop} {w0 : World} {env : Env} {mem : Mem} {nx : Nat} {a : Act} {N : Nat} {K : KO}
theorem rep_made (z : Cells) (zv : Value) (h : zv.cells = z.vals.toArray) (hl : z.len = 1) (h1 : z.ones = true) (n : Nat) : (Array.range n).map (fun i => zv.cells[i % zv.cells.size]!) = (z.rep n).vals.toArray := by
  have hvl : z.vals.length = 1 := by rw [Cells.vals_length, hl]
  obtain ⟨v, hv⟩ := List.length_eq_one_iff.1 hvl
  obtain ⟨e1, _, _⟩ := Cells.rep_vals z n hl h1
  rw [e1, h, hv]
  apply Array.ext
  · simp
  · intro i h1 h2
    simp [Nat.mod_one]
theorem copy_ok (hTT : TTok P tt) (hE : ERel ds env a N) {o : Oper} {t u : TypeId} {d s : Operand} (ho : o.op = .call { callee := .builtin .copy, args := #[d, s], argTypes := #[t, u] }) {i : TI} (ht : tt t = some i) {e : TypeId} (hd : i.dsc = .slice e) (he : (tt e).map TI.size = some 1) {z : Cells} {Q : Exit → Act → World → Prop}
    (h : copyVC mem nx z (ev env d) (ev env s) K) {W : World} (hW : MRel pv w0 mem W) : o.wp P a W (Post pv w0 mem o.op W o.dst a K) Q := by
  have hq : quietOp o.op = false := by rw [ho]; rfl
  have hu : P.underlying t = some (.slice e) := by have := (hTT t i ht).dsc; rw [hd] at this; exact this
  obtain ⟨ie, hie, hes⟩ := Option.map_eq_some_iff.1 he
  unfold copyVC at h
  cases hdv : ev env d <;> simp only [hdv] at h <;> try exact h.elim
  rename_i l g off len cap
  have ed := ev_is hE hdv rfl
  cases hg : getA mem l with
  | none => simp [hg] at h
  | some me =>
    rw [hg] at h
    cases me with
    | own g' ty cs =>
      obtain ⟨⟨rfl, hoff⟩, h⟩ := h
      obtain ⟨ys, h, hgx, hr⟩ := rd_run (pv := pv) (w0 := w0) h
      obtain ⟨A, c, hxc, hlc, hsl, hblkA⟩ := hr W hW
      have es := ev_is hE (x := s) rfl hgx
      cases hup : cs.upd off (ys.part 0 (min ys.len len)) with
      | none => simp [hup] at h
      | some c1 =>
        simp only [hup] at h
        obtain ⟨how, hbase, h1c⟩ := hW.ok _ _ hg
        have hpl : (ys.part 0 (min ys.len len)).len = min ys.len len := by rw [Cells.part_len]; omega
        obtain ⟨e1, e2⟩ := Cells.upd_ok cs off _ c1 hup (by rw [hpl]; omega)
        have hc1 := Cells.upd_ones cs off _ c1 hup h1c
        have hpv : (ys.part 0 (min ys.len len)).vals = ys.vals.take (min ys.len len) := by rw [Cells.vals_part, List.drop_zero]
        have hones : ∀ v ∈ ys.vals.take (min ys.len len), v.oneCell' = true := by
          intro y hy
          refine Cells.ones_ok c1 hc1 y ?_
          rw [e1, hpv]; simp [hy]
        have hvl := Cells.vals_length ys
        have hload : (Builtin.firstCells 1 (min ys.len len) (.slice A ys.len c)).run P W = .ok (ys.vals.take (min ys.len len)).toArray W := by
          cases A with
          | none =>
            have : ys.vals = [] := by
              cases hy : ys.vals with
              | nil => rfl
              | cons y r =>
                obtain ⟨b, o1, hA, _⟩ := hsl.2 0 y (by rw [hy]; rfl)
                cases hA
            simp [Builtin.firstCells, this]
          | some ad =>
            have hlen : (ys.vals.take (min ys.len len)).length = min ys.len len * 1 := by rw [List.length_take, hvl]; omega
            unfold Builtin.firstCells
            have := run_loadCells_list (P := P) W ad (ys.vals.take (min ys.len len)) fun j v hj => by
              rw [List.getElem?_take] at hj
              split at hj
              · obtain ⟨b, o1, hA, hc⟩ := hsl.2 j v hj
                injection hA with hA; subst hA
                rw [addA]; exact hc
              · cases hj
            rw [hlen] at this
            exact this
        have hst := run_storeCells_at (P := P) g' off ty (ys.vals.take (min ys.len len)) 0 cs.vals.toArray W how (by have := Cells.vals_length cs; simp only [List.length_take, hvl, List.size_toArray]; omega) hones
        have hrun : (Builtin.copy_ #[t, u] o.type #[.slice (some ⟨g', off, none⟩) len cap, .slice A ys.len c]).run P W = .ok (.int .i64 (min ys.len len : Nat)) (W.setRow g' c1.vals.toArray) := by
          unfold Builtin.copy_
          have hm : Nat.min ys.len len = min ys.len len := rfl
          simp only [List.getElem?_toArray, List.getElem?_cons_zero, List.getElem?_cons_succ, Sem.run_bind, run_underlying hu, Result.andThen_ok, Builtin.lenOf, Sem.run_pure, (hTT e ie hie).rsize, hes, hm, hload, hst]
          rw [e1, hpv]
          simp only [Nat.add_zero]
          rfl
        have hexec : (execOp a.eval o).run P W = .ok (.value (.int .i64 (min ys.len len : Nat))) (W.setRow g' c1.vals.toArray) := by
          unfold execOp
          simp only [ho, resolve, invoke, builtin, Sem.run_bind, Sem.run_pure, Result.andThen_ok, List.map_toArray, List.map_cons, List.map_nil, ed, es, hxc]
          rw [show (AV.slc l g' off len cap).conc = .slice (some ⟨g', off, none⟩) len cap from rfl, hrun]
          rfl
        exact wp_of_value hexec ⟨_, _, _, _, .inr rfl, rfl, hW.write hg hc1, fun h => (by rw [hq] at h; cases h), Frm.row hg rfl _, Near.setOwn hg, h⟩
    | _ => exact h.elim
theorem op_pure (hTT : TTok P tt) (hE : ERel ds env a N) {o : Oper} {Q : Exit → Act → World → Prop} (h : pureVC tt env mem nx o.op K) {W : World} (hW : MRel pv w0 mem W) : o.wp P a W (Post pv w0 mem o.op W o.dst a K) Q := by
  obtain ⟨v, m, n, hg, hK, hnn, hr⟩ := pure_ok (P := P) (pv := pv) (w0 := w0) hTT hE h rfl
  exact wp_of_value (hr W hW).2 ⟨v, m, n, _, .inr rfl, rfl, (hr W hW).1, fun _ => Below.refl _ _, Frm.of_below _ (Below.refl _ _), hnn.near _, hK⟩
theorem op_blt (hTT : TTok P tt) (hE : ERel ds env a N) {o : Oper} {c : Call} {b : Builtin} (ho : o.op = .call c) (hc : c.callee = .builtin b) (hq : quietOp o.op = true) {Q : Exit → Act → World → Prop} (h : bltVC tt mem nx b (c.args.toList.map (ev env)) c.argTypes.toList K) {W : World} (hW : MRel pv w0 mem W) : o.wp P a W (Post pv w0 mem o.op W o.dst a K) Q := by
  refine op_pure (nx := nx) hTT hE ?_ hW
  rw [ho]
  obtain ⟨callee, args, tys⟩ := c
  dsimp only at hc; subst hc
  exact h
theorem op_ok (hTT : TTok P tt) (hCT : CTok P ct) (hE : ERel ds env a N) {o : Oper} {op : Op} (ho : o.op = op) {Q : Exit → Act → World → Prop} (h : opVC tt ct env mem nx op K) {W : World} (hW : MRel pv w0 mem W) : o.wp P a W (Post pv w0 mem o.op W o.dst a K) Q := by
  cases op with
  | alloc e =>
    simp only [opVC] at h
    cases he : tt e with
    | none => simp [he] at h
    | some i =>
      simp only [he] at h
      have hi := hTT e i he
      have hr : (Instr.alloc e true (.tuple #[])).run P W = .ok ((.pointer (some ⟨W.heap.size, 0, none⟩))) (W.alloc (.cells i.zero.vals.toArray e)) := by
        unfold Instr.alloc
        simp only [Sem.run_bind, hi.rzero, Result.andThen_ok, run_newVar', hi.zcells, Sem.run_pure]
      exact wp_of_value (exec_value' (by simp only [execOp, ho]) hr) (post_new hW e i.zero hi.ones _ _ (.inr rfl) (h W.heap.size))
  | box e x =>
    simp only [opVC] at h
    cases hc : (ev env x).cells with
    | none => simp [hc] at h
    | some cs =>
      simp only [hc] at h
      have ex := ev_is hE (x := x) rfl (good_of_store hc)
      have hVc := AV.cells_ok _ cs hc _ (AV.is_refl _)
      have hr : (Instr.box e (a.eval x)).run P W = .ok ((.pointer (some ⟨W.heap.size, 0, none⟩))) (W.alloc (.cells cs.vals.toArray e)) := by
        unfold Instr.box
        rw [ex]
        simp only [Sem.run_bind, run_newVar', Result.andThen_ok, Sem.run_pure, hVc]
      exact wp_of_value (exec_value' (by simp only [execOp, ho]) hr) (post_new hW e cs h.1 _ _ (.inr rfl) (h.2 W.heap.size))
  | buildSlice t n ps =>
    simp only [opVC] at h
    cases ht : tt t with
    | none => simp [ht] at h
    | some i =>
      simp only [ht] at h
      cases hd : i.dsc <;> simp only [hd] at h <;> try exact h.elim
      rename_i e
      have hu : P.underlying t = some (.slice e) := by have := (hTT t i ht).dsc; rw [hd] at this; exact this
      cases he : tt e with
      | none => simp [he] at h
      | some ie =>
        simp only [he] at h
        obtain ⟨⟨hs, hn⟩, h⟩ := h
        have hTe := hTT e ie he
        have hzl : ie.zero.len = 1 := by rw [hTe.len, hs]
        obtain ⟨_, hrl, hro⟩ := Cells.rep_vals ie.zero n hzl hTe.ones
        have h := fill_ones _ _ _ h hro
        obtain ⟨cs', hK, hf, hl⟩ := fill_ok _ _ _ (ps.map fun (i, x) => (i, a.eval x)).toList h (by simp) (by
          intro j p q hp hq
          rw [List.getElem?_map] at hp
          rw [Array.toList_map, List.getElem?_map] at hq
          obtain ⟨z, hz, rfl⟩ := Option.map_eq_some_iff.1 hp
          rw [hz] at hq
          simp only [Option.map_some, Option.some.injEq] at hq
          subst hq
          exact ⟨rfl, ev_ok hE _⟩) hro
        have hr : (Instr.buildSlice t n (ps.map fun (i, x) => (i, a.eval x))).run P W = .ok (.slice (some ⟨W.heap.size, 0, none⟩) n n) (W.alloc (.cells cs'.vals.toArray e)) := by
          unfold Instr.buildSlice
          simp only [Sem.run_bind, run_underlying hu, Result.andThen_ok, hTe.rsize, hs, Nat.mul_one, if_neg (show ¬ n > 2 ^ 24 by omega), Sem.run_pure]
          by_cases h0 : n = 0
          · subst h0
            simp only [if_true, pure_bind]
            have : (Array.range 0).map (fun i => (#[] : Array Value)[i % (#[] : Array Value).size]!) = (ie.zero.rep 0).vals.toArray := by
              have := Cells.vals_length (ie.zero.rep 0)
              rw [hrl] at this
              rw [List.eq_nil_of_length_eq_zero this]; simp
            rw [this, hf]
            rfl
          · simp only [h0, if_false, Sem.run_bind, hTe.rzero, Result.andThen_ok, Sem.run_pure]
            rw [rep_made ie.zero ie.zeroV hTe.zcells hzl hTe.ones n, hf]
            rfl
        exact wp_of_value (exec_value' (by simp only [execOp, ho]) hr) (post_new hW e cs' hK.2 _ _ (.inr rfl) (hK.1 W.heap.size))
  | makeSlice t l c =>
    simp only [opVC] at h
    cases ht : tt t with
    | none => simp [ht] at h
    | some i =>
      simp only [ht] at h
      cases hd : i.dsc <;> simp only [hd] at h <;> try exact h.elim
      rename_i e
      have hu : P.underlying t = some (.slice e) := by have := (hTT t i ht).dsc; rw [hd] at this; exact this
      cases he : tt e with
      | none => simp [he] at h
      | some ie =>
        cases hl : ev env l <;> simp only [he, hl] at h <;> try exact h.elim
        rename_i n
        cases hc : ev env c <;> simp only [hc] at h <;> try exact h.elim
        rename_i m
        obtain ⟨⟨hs, h0, hnm, hb, hm⟩, hK⟩ := h
        have hTe := hTT e ie he
        have hzl : ie.zero.len = 1 := by rw [hTe.len, hs]
        obtain ⟨hrv, hrl, hro⟩ := Cells.rep_vals ie.zero m.toNat hzl hTe.ones
        obtain ⟨i0, hi, hzz⟩ := Option.map_eq_some_iff.1 hTe.info
        simp only [Prod.mk.injEq] at hzz
        obtain ⟨hz0, hz1, hz2⟩ := hzz
        have hr : (Instr.makeSlice t (.int .i64 n) (.int .i64 m)).run P W = .ok (.slice (some ⟨W.heap.size, 0, none⟩) n.toNat m.toNat) (W.alloc (.cells (ie.zero.rep m.toNat).vals.toArray e)) := by
          rw [run_make W t e i0 _ hu hi hz0 .i64 .i64 n m h0 hnm (by rw [hz2, Int.mul_comm]; omega) (by omega)]
          congr 3
          rw [hrv, hz1, hs, Nat.mul_one]
          have hvl : ie.zero.vals.length = 1 := by rw [Cells.vals_length, hzl]
          obtain ⟨v, hv⟩ := List.length_eq_one_iff.1 hvl
          unfold madeCells
          rw [hTe.zcells, hv]
          apply Array.ext
          · simp
          · intro i h1 h2; simp [Nat.mod_one]
        refine wp_of_value (exec_value' (s := Instr.makeSlice t (a.eval l) (a.eval c)) (by simp only [execOp, ho]) (by rw [ev_is hE hl rfl, ev_is hE hc rfl]; exact hr)) (post_new hW e _ hro _ _ (.inr rfl) (hK W.heap.size))
  | store t x v =>
    simp only [opVC] at h
    cases ht : tt t with
    | none => simp [ht] at h
    | some i =>
      simp only [ht] at h
      exact storeG_ok hTT hE ho ht h hW
  | call c =>
    simp only [opVC] at h
    split at h
    · rename_i F hF
      exact callx_ok hCT (dials_fn hE ho hF) h hW
    · rename_i hF
      obtain ⟨callee, args, tys⟩ := c
      dsimp only at hF; subst hF
      obtain ⟨args⟩ := args
      obtain ⟨tys⟩ := tys
      dsimp only at h
      split at h
      · rename_i s x t u
        split at h
        · rename_i htu
          subst htu
          exact app_ok hTT hE ho h hW
        · exact apz_ok hTT hE ho h hW
      · exact h.elim
    · rename_i hF
      obtain ⟨callee, args, tys⟩ := c
      dsimp only at hF; subst hF
      obtain ⟨args⟩ := args
      obtain ⟨tys⟩ := tys
      dsimp only at h
      split at h
      · rename_i d s t u
        obtain ⟨_, h⟩ := h
        cases ht : tt t with
        | none => simp [ht] at h
        | some i =>
          simp only [ht] at h
          cases hd : i.dsc <;> simp only [hd] at h <;> try exact h.elim
          exact copy_ok hTT hE ho ht hd h.1 h.2 hW
      · exact h.elim
    · rename_i b hb1 hb2 hF
      refine op_blt hTT hE ho hF ?_ h hW
      rw [ho]
      simp only [quietOp, hF]
      cases b <;> first | rfl | exact absurd rfl hb1 | exact absurd rfl hb2
    · cases hw : whoOf tt env c with
      | none => simp only [hw] at h
      | some p =>
        obtain ⟨F, args, tys⟩ := p
        simp only [hw] at h
        exact callx_ok hCT (dials_who hTT hE ho hw) h hW
  | convert s d x =>
    simp only [opVC] at h
    split at h
    · rename_i hs hx
      obtain rfl : s = d := of_decide_eq_true hs
      exact mark_ok hTT hE ho hx h hW
    · exact op_pure (nx := nx) hTT hE (by rw [ho]; exact h) hW
  | _ => exact op_pure (nx := nx) hTT hE (by rw [ho]; exact h) hW
end
end Go.Proofs.Ytlcaobnojbkmbaa
