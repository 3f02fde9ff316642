/- What is owed for each operation, told without a world: operations that make or write memory are told rightly. For any program. -/
import Derived.Test.YtjleiifcigojoaaOps2
namespace Go.Proofs.Ytjleiifcigojoaa
open Go Go.RowKit
set_option linter.unusedVariables false
set_option linter.unusedSimpArgs false
variable {ds : List Deferred}
section
variable {P : Program} {tt : TT} {ct : CTab} {pv : Nat → Prop} {w0 : World} {env : Env} {mem : Mem} {nx : Nat} {a : Act} {N : Nat} {K : KO}
theorem exec_value' {ρ : Operand → Value} {o : Oper} {s : Sem Value} {v : Value} {W W' : World} (he : execOp ρ o = (do pure (Next.value (← s)))) (h : s.run P W = .ok v W') : (execOp ρ o).run P W = .ok (.value v) W' := by
  rw [he]; exact run_value h
theorem run_newVar' (t : TypeId) (v : Value) (W : World) : (newVar t v).run P W = .ok ⟨W.heap.size, 0, none⟩ (W.alloc (.cells v.cells t)) := by
  rfl
theorem run_newRow' (t : TypeId) (cs : Array Value) (W : World) : (newRow t cs).run P W = .ok ⟨W.heap.size, 0, none⟩ (W.alloc (.cells cs t)) := by
  rfl
theorem post_new {op : Op} {W : World} {dst : Option Tmp} (hW : MRel pv w0 mem W) (t : TypeId) (cs : Cells) (h1 : cs.ones = true) (v : AV) (V : Value) (hV : v.is V) (hK : K v ((nx, .own W.heap.size t cs) :: mem) (nx + 1)) :
    Post pv w0 mem op W dst a K (a.put dst V) (W.alloc (.cells cs.vals.toArray t)) :=
  ⟨v, _, _, V, hV, rfl, hW.alloc nx t cs h1, fun _ => (Below.refl _ W).alloc (Nat.le_refl _) _, Frm.of_below _ ((Below.refl _ W).alloc (Nat.le_refl _) _), Near.cons fun k hk => (by injection hk with hk; right; omega), hK⟩
theorem Cells.rep_vals (z : Cells) (n : Nat) (h : z.len = 1) (h1 : z.ones = true) : (z.rep n).vals = List.replicate n (z.vals.headD undef) ∧ (z.rep n).len = n ∧ (z.rep n).ones = true := by
  cases z with
  | c8 xs =>
    match xs, h with
    | [x], _ => exact ⟨by simp [Cells.rep, Cells.vals, g8], by simp [Cells.rep, Cells.len], rfl⟩
  | c32 xs =>
    match xs, h with
    | [x], _ => exact ⟨by simp [Cells.rep, Cells.vals, g32], by simp [Cells.rep, Cells.len], rfl⟩
  | c64 xs =>
    match xs, h with
    | [x], _ => exact ⟨by simp [Cells.rep, Cells.vals, g64], by simp [Cells.rep, Cells.len], rfl⟩
  | cv xs =>
    match xs, h with
    | [x], _ =>
      refine ⟨by simp [Cells.rep, Cells.vals], by simp [Cells.rep, Cells.len], ?_⟩
      simp only [Cells.ones, List.all_cons, List.all_nil, Bool.and_true] at h1
      simp only [Cells.rep, Cells.ones, List.getD_cons_zero, List.all_eq_true]
      intro y hy
      rw [List.eq_of_mem_replicate hy]; exact h1
theorem fill_ones {place : Nat → Option (Nat × Nat)} : ∀ (ps : List (Nat × AV)) (cs : Cells) (K : Cells → Prop), fillVC place cs ps K → cs.ones = true → fillVC place cs ps (fun c => K c ∧ c.ones = true)
  | [], cs, K, h, h1 => ⟨h, h1⟩
  | (i, v) :: r, cs, K, h, h1 => by
    unfold fillVC at h ⊢
    cases hp : place i with
    | none => simp [hp] at h
    | some q =>
      obtain ⟨off, size⟩ := q
      simp only [hp] at h ⊢
      by_cases hs : size = 1
      · rw [if_pos hs] at h ⊢
        refine ⟨h.1, ?_⟩
        have h := h.2
        cases hset : cs.set off v with
        | none => simp [hset] at h
        | some c1 =>
          simp only [hset] at h ⊢
          exact fill_ones r c1 K h (Cells.set_ones cs off v c1 hset h1)
      · rw [if_neg hs] at h ⊢
        cases hc : v.cells with
        | none => simp [hc] at h
        | some d =>
          simp only [hc] at h ⊢
          refine ⟨h.1, ?_⟩
          have h := h.2
          cases hu : cs.upd off d with
          | none => simp [hu] at h
          | some c1 =>
            simp only [hu] at h ⊢
            exact fill_ones r c1 K h (Cells.upd_ones cs off d c1 hu h1)
theorem good_of_store {v : AV} {d : Cells} (h : v.cells = some d) : v.good = true := by cases v <;> first | rfl | cases h
/-- Cells of a block of the call's own, turned from a place on. -/
theorem store_run {W : World} {l g : Nat} {t ty : TypeId} {i : TI} (hi : TIok P ty i) {cs : Cells} (hW : MRel pv w0 mem W) (hg : getA mem l = some (.own g t cs)) {V : Value} {vs : List Value} {j : Nat} (hV : V.cells = vs.toArray) (hvs : vs.length = i.size) (hj : j + vs.length ≤ cs.len) (h1 : ∀ v ∈ vs, v.oneCell' = true) :
    (Instr.storeAt ty (.pointer (some ⟨g, j, none⟩)) V).run P W = .ok () (W.setRow g (cs.vals.take j ++ vs ++ cs.vals.drop (j + vs.length)).toArray) := by
  rw [hvs]
  obtain ⟨ho, _, _⟩ := hW.ok _ _ hg
  have := run_storeCells_at (P := P) g j t vs 0 cs.vals.toArray W ho (by simp [Cells.vals_length]; omega) h1
  unfold Instr.storeAt Instr.sureAddr
  simp only [Sem.run_bind, Sem.run_pure, Result.andThen_ok]
  unfold storeVar
  simp only [Sem.run_bind, hi.rsize, Result.andThen_ok, hV, List.size_toArray, hvs, ne_eq, not_true, if_false]
  rw [hvs] at this
  simpa only [Nat.add_zero] using this
theorem store_ok (hTT : TTok P tt) (hE : ERel ds env a N) {o : Oper} {t : TypeId} {x v : Operand} (ho : o.op = .store t x v) {i : TI} (ht : tt t = some i) {Q : Exit → Act → World → Prop}
    (h : storeVC mem i (ev env x) (ev env v) fun mem => K .bad mem nx) {W : World} (hW : MRel pv w0 mem W) : o.wp P a W (Post pv w0 mem o.op W o.dst a K) Q := by
  have hi := hTT t i ht
  have hexec : ∀ W', (Instr.storeAt t (a.eval x) (a.eval v)).run P W = .ok () W' → (execOp a.eval o).run P W = .ok .skip W' := fun W' hr => by
    unfold execOp
    simp only [ho, Sem.run_bind, hr, Result.andThen_ok, Sem.run_pure]
  have hq : quietOp o.op = false := by rw [ho]; rfl
  unfold storeVC at h
  cases hx : ev env x <;> simp only [hx] at h <;> try exact h.elim
  case rptr l A j =>
    have ex := ev_is hE hx rfl
    cases hg : getA mem l with
    | none => simp [hg] at h
    | some e =>
      rw [hg] at h
      cases e with
      | row v' e cs =>
        obtain ⟨⟨hA, ha, hj⟩, h⟩ := h
        obtain ⟨how, h1c⟩ := hW.ok _ _ hg
        cases hset : cs.set j (ev env v) with
        | none => simp [hset] at h
        | some c1 =>
          simp only [hset] at h
          obtain ⟨e1, e2, e3, e4⟩ := Cells.set_ok cs j _ c1 hset
          have hgood : (ev env v).good = true := by
            cases hv : ev env v <;> first | rfl | exact absurd hv e4
          have evv := ev_is hE (x := v) rfl hgood
          have hcells : (ev env v).conc.cells = #[(ev env v).conc] := by revert e3; cases (ev env v).conc <;> simp [Value.oneCell', Value.cells]
          rcases how.2 with ⟨_, hn⟩ | ⟨g, cap, cur, rfl, hg0, hgb, hnc, hcm, hcs, htk⟩
          · omega
          obtain rfl : A = some ⟨g, 0, none⟩ := hA.symm
          have hbnd : 0 + j + [(ev env v).conc].length ≤ cur.size := by simp only [List.length_cons, List.length_nil]; omega
          have hst := run_storeCells_at (P := P) g 0 e [(ev env v).conc] j cur W hgb hbnd (by intro y hy; rw [List.mem_singleton.1 hy]; exact e3)
          have hst' := run_storeCells_at (P := P) g j e [(ev env v).conc] 0 cur W hgb (by simp only [List.length_cons, List.length_nil]; omega) (by intro y hy; rw [List.mem_singleton.1 hy]; exact e3)
          have hsz : i.size = 1 := hi.one ha
          have hr : (Instr.storeAt t (AV.rptr l (some ⟨g, 0, none⟩) j).conc (ev env v).conc).run P W = .ok () (W.setRow g (cur.toList.set j (ev env v).conc).toArray) := by
            rw [show (AV.rptr l (some ⟨g, 0, none⟩) j).conc = .pointer (some ⟨g, j, none⟩) by simp [AV.conc, addA]]
            unfold Instr.storeAt Instr.sureAddr
            simp only [Sem.run_bind, Sem.run_pure, Result.andThen_ok]
            unfold storeVar
            simp only [Sem.run_bind, hi.rsize, Result.andThen_ok, hcells, List.size_toArray, List.length_cons, List.length_nil, Nat.zero_add, hsz, ne_eq, not_true, if_false]
            simp only [Nat.add_zero] at hst'
            rw [hst', List.set_eq_take_append_cons_drop, if_pos (by rw [Array.length_toList]; omega)]
            simp
          rw [← evv] at hr
          have hne : ∀ k, k ≠ g → (W.setRow g (cur.toList.set j (a.eval v)).toArray).heap[k]? = W.heap[k]? := fun k hk => setRow_other W g k _ hk
          refine wp_of_skip (hexec _ (by rw [ex]; exact hr)) ⟨.bad, _, _, undef, .inl rfl, rfl, ?_, fun h => (by rw [hq] at h; cases h), Frm.row hg rfl _, Near.set (e1 := .row (.slice (some ⟨g, 0, none⟩) cs.len cap) e c1) hg rfl _, h⟩
          refine hW.turn l _ _ hg (below_row hW.below hg0 _) ⟨⟨by rw [Cells.vals_length]; omega, .inr ⟨g, cap, (cur.toList.set j (a.eval v)).toArray, by rw [e2], hg0, setRow_heap W g cur _ e _ hgb, by omega, hcm, by simpa using hcs, ?_⟩⟩, Cells.set_ones cs j _ c1 hset h1c⟩ (.inl rfl) (fun _ => rfl) rfl (by simp) fun k _ hk => hne k fun e => hk (by rw [e]; rfl)
          rw [e1, e2, evv, ← htk]
          simp [List.take_set]
      | _ => exact h.elim
  rename_i l g j
  have ex := ev_is hE hx rfl
  cases hg : getA mem l with
  | none => simp [hg] at h
  | some e =>
    rw [hg] at h
    cases e with
    | own g' u cs =>
      obtain ⟨rfl, h⟩ := h
      obtain ⟨how, hbase, h1c⟩ := hW.ok _ _ hg
      by_cases ha : i.dsc.agg = true
      · rw [if_pos ha] at h
        cases hc : (ev env v).cells with
        | none => simp [hc] at h
        | some d =>
          simp only [hc] at h
          have evv := ev_is hE (x := v) rfl (good_of_store hc)
          have hVc := AV.cells_ok _ d hc _ (AV.is_refl _)
          by_cases hw : j = 0 ∧ i.size = cs.len
          · rw [if_pos hw] at h
            obtain ⟨rfl, hs⟩ := hw
            obtain ⟨⟨hd, h1⟩, hK⟩ := h
            have hr := store_run (P := P) hi hW hg (V := (ev env v).conc) (vs := d.vals) (j := 0) hVc (by rw [Cells.vals_length, hd]) (by rw [Cells.vals_length]; omega) (Cells.ones_ok d h1)
            rw [← evv] at hr
            refine wp_of_skip (hexec _ (by rw [ex]; exact hr)) ⟨.bad, _, _, undef, .inl rfl, rfl, ?_, fun h => (by rw [hq] at h; cases h), Frm.row hg rfl _, Near.setOwn hg, hK⟩
            have : cs.vals.take 0 ++ d.vals ++ cs.vals.drop (0 + d.vals.length) = d.vals := by
              rw [List.drop_eq_nil_of_le (by simp only [Cells.vals_length]; omega)]; simp
            rw [this]
            exact hW.write hg h1
          · rw [if_neg hw] at h
            obtain ⟨⟨hd, hj⟩, h⟩ := h
            cases hu : cs.upd j d with
            | none => simp [hu] at h
            | some c1 =>
              simp only [hu] at h
              obtain ⟨e1, e2⟩ := Cells.upd_ok cs j d c1 hu (by omega)
              have hones : ∀ v ∈ d.vals, v.oneCell' = true := by
                intro y hy
                refine Cells.ones_ok c1 (Cells.upd_ones cs j d c1 hu h1c) y ?_
                rw [e1]; simp [hy]
              have hr := store_run (P := P) hi hW hg (V := (ev env v).conc) (vs := d.vals) (j := j) hVc (by rw [Cells.vals_length, hd]) (by rw [Cells.vals_length]; omega) hones
              rw [← evv] at hr
              refine wp_of_skip (hexec _ (by rw [ex]; exact hr)) ⟨.bad, _, _, undef, .inl rfl, rfl, ?_, fun h => (by rw [hq] at h; cases h), Frm.row hg rfl _, Near.setOwn hg, h⟩
              rw [← e1]
              exact hW.write hg (Cells.upd_ones cs j d c1 hu h1c)
      · rw [if_neg ha] at h
        obtain ⟨hj, h⟩ := h
        cases hset : cs.set j (ev env v) with
        | none => simp [hset] at h
        | some c1 =>
          simp only [hset] at h
          obtain ⟨e1, e2, e3, e4⟩ := Cells.set_ok cs j _ c1 hset
          have hgood : (ev env v).good = true := by
            cases hv : ev env v <;> first | rfl | exact absurd hv e4
          have evv := ev_is hE (x := v) rfl hgood
          have hcells : (ev env v).conc.cells = #[(ev env v).conc] := by revert e3; cases (ev env v).conc <;> simp [Value.oneCell', Value.cells]
          have hr := store_run (P := P) hi hW hg (V := (ev env v).conc) (vs := [(ev env v).conc]) (j := j) hcells (by simpa using (hi.one (by simpa using ha)).symm) (by simp; omega) (by intro y hy; rw [List.mem_singleton.1 hy]; exact e3)
          rw [← evv] at hr
          refine wp_of_skip (hexec _ (by rw [ex]; exact hr)) ⟨.bad, _, _, undef, .inl rfl, rfl, ?_, fun h => (by rw [hq] at h; cases h), Frm.row hg rfl _, Near.setOwn hg, h⟩
          have : cs.vals.take j ++ [a.eval v] ++ cs.vals.drop (j + [a.eval v].length) = c1.vals := by
            rw [e1, evv, List.set_eq_take_append_cons_drop, if_pos (by rw [Cells.vals_length]; exact hj)]; simp
          rw [this]
          exact hW.write hg (Cells.set_ones cs j _ c1 hset h1c)
    | _ => exact h.elim
/-- Anything that is read is appended to a row of the call's own. -/
theorem run_append_any {W : World} (base : Nat) {t e : TypeId} {ie : TI} (hTe : TIok P e ie) (ht : P.underlying t = some (.slice e)) (hs : ie.size = 1) (hb0 : 0 < ie.bytes) (ty : TypeId) (v : Value) (xs : List Value) (ys : List Value) (h1 : ∀ y ∈ ys, y.oneCell' = true) (A : Option Addr) (c : Nat)
    (HO : W.ownsRow base e 1 v xs.length xs) (HR : Sl id W A ys) (hbase : base ≤ W.heap.size) (hl : (xs.length + ys.length) * ie.bytes ≤ 140737488355328) :
    ∃ v1 w1, (Builtin.append_ #[t, t] ty #[v, .slice A ys.length c]).run P W = .ok v1 w1 ∧ w1.ownsRow base e 1 v1 (xs.length + ys.length) (xs ++ ys) ∧ W.grownBy w1 v.ownBlock ∧ (v1.ownBlock = v.ownBlock ∨ v1.ownBlock = some W.heap.size) := by
  obtain ⟨i0, hi, hzz⟩ := Option.map_eq_some_iff.1 hTe.info
  simp only [Prod.mk.injEq] at hzz
  obtain ⟨hz0, hz1, hz2⟩ := hzz
  have hz : ie.zeroV.cells.size = 1 := by rw [hTe.zcells]; simp [Cells.vals_length, hTe.len, hs]
  have hlen : xs.length + ys.length ≤ 140737488355328 := Nat.le_trans (Nat.le_mul_of_pos_right _ hb0) hl
  rcases Nat.eq_zero_or_pos ys.length with h0 | h0
  · obtain rfl : ys = [] := List.eq_nil_of_length_eq_zero h0
    refine ⟨v, W, ?_, by simpa using HO, World.grownBy.refl W _, .inl rfl⟩
    rcases HO.2 with ⟨rfl, hn⟩ | ⟨g, cap, cur, rfl, _, hg, hnc, hcm, hcs, _⟩
    · cases A <;> simp [Builtin.append_, run_underlying ht, sizeOf, typeInfo, hi, Builtin.lenOf, Builtin.firstCells, loadCells, loadCellsFrom]
    · cases A with
      | none => simp [Builtin.append_, run_underlying ht, sizeOf, typeInfo, hi, Builtin.lenOf, Builtin.firstCells, hnc, storeCells]
      | some ad => simp [Builtin.append_, run_underlying ht, sizeOf, typeInfo, hi, Builtin.lenOf, Builtin.firstCells, hnc, storeCells, loadCells, loadCellsFrom]
  · obtain ⟨b, o1, rfl, hcells⟩ := HR.all h0
    obtain ⟨v1, w1, hr, h2, h3, _, h5⟩ := run_append_own_at (P := P) W base t ty e i0 _ 1 ie.bytes ht hi hz0 (by rw [hz1, hs]) hz2 hz (by omega) v xs.length xs HO ⟨b, o1, none⟩ ys.length c ys (by simp)
      (by
        intro j u hu
        rw [addA]
        exact hcells j u hu) h1 (by simp only [maxLen]; omega) hl hbase
    exact ⟨v1, w1, hr, h2, h3, h5⟩
theorem blk_own (v : Value) : blkV v = v.ownBlock := by
  cases v <;> first | rfl | (rename_i A _ _; cases A <;> rfl)
theorem MRel.rename {W : World} (h : MRel pv w0 mem W) {l n : Nat} {e : ME} (he : getA mem l = some e) : MRel pv w0 ((n, e) :: delA mem l) W := by
  refine (h.drop l).add n e (h.ok l e he) fun l' e' he' hm k hk hk' => ?_
  rw [getA_delA] at he'
  split at he'
  · cases he'
  · rename_i hne
    rcases hm with hm | hm
    · exact h.sep l e l' e' he he' (Ne.symm hne) hm k hk hk'
    · exact h.sep l' e' l e he' he hne hm k hk' hk
/-- A row that has grown. -/
theorem MRel.grow {W W' : World} (h : MRel pv w0 mem W) {l n : Nat} {e e1 : ME} (he : getA mem l = some e) (hmine : e.mine = true) {row : Option Nat} (hrow : ∀ k, row = some k → e.blk = some k) (hg : W.grownBy W' row) (he1 : MEok pv w0 W' e1) (hblk : e1.blk = e.blk ∨ ∀ k, e1.blk = some k → W.heap.size ≤ k) : MRel pv w0 ((n, e1) :: delA mem l) W' := by
  have hb : Below w0.heap.size w0 W' := by
    refine h.below.trans ⟨hg.os, hg.tape, hg.output, hg.size, fun k hk => hg.block k (Nat.lt_of_lt_of_le hk h.size) fun e2 => ?_⟩
    have h2 := hrow k e2.symm
    have h3 := h.ok l e he
    cases e with
    | own g t cs => injection h2 with h2; have := h3.2.1; omega
    | fix g o => cases hmine
    | ro A c cs => cases hmine
    | row v e cs =>
      rcases h3.1.2 with ⟨rfl, _⟩ | ⟨g, cap, cur, rfl, hg0, _⟩
      · cases h2
      · injection h2 with h2; have h4 : g = k := h2; omega
  have ht := h.turn l e e1 he hb he1 hblk (fun _ => hmine) hmine hg.size fun k hk hne => hg.block k hk fun e2 => hne (hrow k e2.symm)
  have hr := ht.rename (l := l) (n := n) (e := e1) (by rw [getA_setA, if_pos rfl, he]; rfl)
  exact hr.less fun k d hd => by
    simp only [getA] at hd ⊢
    split
    · rw [if_pos (by assumption)] at hd; exact hd
    · rw [if_neg (by assumption)] at hd
      rw [getA_delA] at hd ⊢
      split at hd
      · cases hd
      · rename_i hne; rw [if_neg hne, getA_setA, if_neg hne]; exact hd
theorem app_ok (hTT : TTok P tt) (hE : ERel ds env a N) {o : Oper} {t : TypeId} {s x : Operand} (ho : o.op = .call { callee := .builtin .append, args := #[s, x], argTypes := #[t, t] }) {Q : Exit → Act → World → Prop}
    (h : appVC tt mem nx t (ev env s) (ev env x) K) {W : World} (hW : MRel pv w0 mem W) : o.wp P a W (Post pv w0 mem o.op W o.dst a K) Q := by
  have hq : quietOp o.op = false := by rw [ho]; rfl
  unfold appVC at h
  cases ht : tt t with
  | none => simp [ht] at h
  | some i =>
    simp only [ht] at h
    cases hd : i.dsc <;> simp only [hd] at h <;> try exact h.elim
    rename_i e
    have hu : P.underlying t = some (.slice e) := by have := (hTT t i ht).dsc; rw [hd] at this; exact this
    cases he : tt e with
    | none => simp [he] at h
    | some ie =>
      simp only [he] at h
      obtain ⟨⟨hs1, hb0⟩, h⟩ := h
      obtain ⟨ys, h, hgx, hr⟩ := rd_run (pv := pv) (w0 := w0) h
      obtain ⟨A, c, hxc, hlc, hsl, hblkA⟩ := hr W hW
      have hTe := hTT e ie he
      have ex := ev_is hE (x := x) rfl hgx
      have hexec : ∀ v1 w1, (Builtin.append_ #[t, t] o.type #[a.eval s, a.eval x]).run P W = .ok v1 w1 → (execOp a.eval o).run P W = .ok (.value v1) w1 := fun v1 w1 hr => by
        unfold execOp
        simp only [ho, resolve, invoke, builtin, Sem.run_bind, Sem.run_pure, Result.andThen_ok, List.map_toArray, List.map_cons, List.map_nil, hr]
      have hylen := Cells.vals_length ys
      cases hsv : ev env s <;> simp only [hsv] at h <;> try exact h.elim
      · -- into a block of the call's own
        rename_i l g off len cap
        have es := ev_is hE hsv rfl
        cases hg : getA mem l with
        | none => simp [hg] at h
        | some me =>
          rw [hg] at h
          cases me with
          | own g' u cs =>
            obtain ⟨⟨rfl, rfl, rfl, hlc1, rfl, hcap⟩, h⟩ := h
            cases hcat : (cs.part 0 len).cat ys with
            | none => simp [hcat] at h
            | some zs =>
              simp only [hcat] at h
              obtain ⟨⟨hbz, hzl, h1⟩, hK⟩ := h
              obtain ⟨e1, e2⟩ := Cells.cat_ok _ _ _ hcat
              obtain ⟨ow, hgb, hones⟩ := hW.ok _ _ hg
              have hpv : (cs.part 0 len).vals.length = len := by rw [Cells.vals_length, Cells.part_len]; omega
              have hO : W.ownsRow w0.heap.size u 1 (.slice (some ⟨g', 0, none⟩) len cs.len) (cs.part 0 len).vals.length (cs.part 0 len).vals := by
                refine ⟨by simp, .inr ⟨g', cs.len, cs.vals.toArray, by rw [hpv], hgb, ow, by omega, by unfold maxLen; omega, by simp [Cells.vals_length], ?_⟩⟩
                rw [hpv, Cells.vals_part]; simp
              obtain ⟨v1, w1, hrun, hown, hgr, hwh⟩ := run_append_any (P := P) w0.heap.size hTe hu hs1 hb0 o.type _ _ ys.vals (Cells.ones_ok ys h1) A c hO hsl hW.size (by rw [hpv, hylen, ← hzl]; exact hbz)
              have hzo : zs.ones = true := by
                refine Cells.cat_ones _ _ _ hcat ?_
                cases cs <;> first | rfl | (simp only [Cells.part, Cells.ones, List.all_eq_true] at hones ⊢; intro y hy; exact hones y (List.mem_of_mem_drop (List.mem_of_mem_take hy)))
              refine wp_of_value (hexec v1 w1 (by rw [es, ex, hxc, ← hylen]; exact hrun)) ⟨_, _, _, v1, .inr rfl, rfl, hW.grow (e1 := .row v1 u zs) hg rfl (row := some g') (fun k hk => by injection hk with hk; rw [← hk]; rfl) hgr ⟨?_, hzo⟩ ?_, fun h => (by rw [hq] at h; cases h), ⟨hgr.size, fun k hk hn => hgr.block k hk fun e2 => hn ⟨l, _, hg, by injection e2 with e2; rw [e2]; rfl⟩⟩, Near.put fun k hk => ?_, hK v1⟩
              · rw [e1]
                rw [hpv, hylen, ← hzl] at hown
                exact hown
              · rcases hwh with hwh | hwh
                · left; simp only [ME.blk, blk_own, hwh]; rfl
                · right; intro k hk; simp only [ME.blk, blk_own, hwh] at hk; injection hk with hk; omega
              · simp only [ME.blk, blk_own] at hk
                rcases hwh with hwh | hwh
                · rw [hwh] at hk; injection hk with hk; exact .inl ⟨l, _, hg, by rw [← hk]; rfl⟩
                · rw [hwh] at hk; injection hk with hk; right; omega
          | _ => exact h.elim
      · rename_i l v n
        have es := ev_is hE hsv rfl
        cases hg : getA mem l with
        | none => simp [hg] at h
        | some me =>
          rw [hg] at h
          cases me with
          | row v' e' cs =>
            obtain ⟨⟨rfl, rfl, hn⟩, h⟩ := h
            cases hcat : cs.cat ys with
            | none => simp [hcat] at h
            | some zs =>
              simp only [hcat] at h
              obtain ⟨⟨hbz, h1⟩, hK⟩ := h
              obtain ⟨e1, e2⟩ := Cells.cat_ok _ _ _ hcat
              obtain ⟨ow, hones⟩ := hW.ok _ _ hg
              have hcl := Cells.vals_length cs
              rw [← hcl] at ow
              obtain ⟨v1, w1, hrun, hown, hgr, hwh⟩ := run_append_any (P := P) w0.heap.size hTe hu hs1 hb0 o.type _ _ ys.vals (Cells.ones_ok ys h1) A c ow hsl hW.size (by rw [hcl, hylen, ← e2]; exact hbz)
              refine wp_of_value (hexec v1 w1 (by rw [es, ex, hxc, ← hylen]; exact hrun)) ⟨_, _, _, v1, .inr rfl, rfl, hW.grow (e1 := .row v1 e' zs) hg rfl (row := v'.ownBlock) (fun k hk => by simp only [ME.blk, blk_own]; exact hk) hgr ⟨?_, Cells.cat_ones _ _ _ hcat hones⟩ ?_, fun h => (by rw [hq] at h; cases h), ⟨hgr.size, fun k hk hn => hgr.block k hk fun e2 => hn ⟨l, _, hg, by simp only [ME.blk, blk_own]; exact e2.symm⟩⟩, Near.put fun k hk => ?_, hK v1⟩
              · rw [e1]
                rw [hcl, hylen, ← e2] at hown
                exact hown
              · rcases hwh with hwh | hwh
                · left; simp only [ME.blk, blk_own, hwh]
                · right; intro k hk; simp only [ME.blk, blk_own, hwh] at hk; injection hk with hk; omega
              · simp only [ME.blk, blk_own] at hk
                rcases hwh with hwh | hwh
                · rw [hwh] at hk; exact .inl ⟨l, _, hg, by simp only [ME.blk, blk_own]; exact hk⟩
                · rw [hwh] at hk; injection hk with hk; right; omega
          | _ => exact h.elim
      · have es := ev_is hE hsv rfl
        obtain ⟨⟨hbz, h1⟩, hK⟩ := h
        obtain ⟨v1, w1, hrun, hown, hgr, hwh⟩ := run_append_any (P := P) w0.heap.size hTe hu hs1 hb0 o.type (.slice none 0 0) [] ys.vals (Cells.ones_ok ys h1) A c (World.ownsRow_nil W _ e 1) hsl hW.size (by rw [hylen]; simpa using hbz)
        refine wp_of_value (hexec v1 w1 (by rw [es, ex, hxc, ← hylen]; exact hrun)) ⟨_, _, _, v1, .inr rfl, rfl, ?_, fun h => (by rw [hq] at h; cases h), ⟨hgr.size, fun k hk hn => hgr.block k hk (by simp [Value.ownBlock])⟩, Near.cons fun k hk => ?_, hK v1⟩
        rotate_left
        · simp only [ME.blk, blk_own] at hk
          rcases hwh with hwh | hwh
          · rw [hwh] at hk; cases hk
          · rw [hwh] at hk; injection hk with hk; right; omega
        have hB : Below W.heap.size W w1 := ⟨hgr.os, hgr.tape, hgr.output, hgr.size, fun k hk => hgr.block k hk (by simp [Value.ownBlock])⟩
        refine (hW.down hB).add nx (.row v1 e ys) ⟨by simpa [hylen] using hown, h1⟩ fun l' e' he' _ k hk hk' => ?_
        have hlt := (hW.ok _ _ he').blk_lt k hk'
        simp only [ME.blk, blk_own] at hk
        rcases hwh with hwh | hwh
        · rw [hwh] at hk; cases hk
        · rw [hwh] at hk; injection hk with hk; omega
end
end Go.Proofs.Ytjleiifcigojoaa
