/- What is owed for each operation, told without a world: all operations are told rightly. For any program. -/
import Derived.Test.YtjleiifcigojoaaOps3
import Derived.Test.YtjleiifcigojoaaMrk
namespace Go.Proofs.Ytjleiifcigojoaa
open Go Go.RowKit
set_option linter.unusedVariables false
set_option linter.unusedSimpArgs false
variable {ds : List Deferred}
section
variable {P : Program} {tt : TT} {ct : CTab} {pv : Nat → Prop} {w0 : World} {env : Env} {mem : Mem} {nx : Nat} {a : Act} {N : Nat} {K : KO}
theorem rep_made (z : Cells) (zv : Value) (h : zv.cells = z.vals.toArray) (hl : z.len = 1) (h1 : z.ones = true) (n : Nat) : (Array.range n).map (fun i => zv.cells[i % zv.cells.size]!) = (z.rep n).vals.toArray := by
  have hvl : z.vals.length = 1 := by rw [Cells.vals_length, hl]
  obtain ⟨v, hv⟩ := List.length_eq_one_iff.1 hvl
  obtain ⟨e1, _, _⟩ := Cells.rep_vals z n hl h1
  rw [e1, h, hv]
  apply Array.ext
  · simp
  · intro i h1 h2
    simp [Nat.mod_one]
theorem copy_ok (hTT : TTok P tt) (hE : ERel ds env a N) {o : Oper} {t u : TypeId} {d s : Operand} (ho : o.op = .call { callee := .builtin .copy, args := #[d, s], argTypes := #[t, u] }) {i : TI} (ht : tt t = some i) {e : TypeId} (hd : i.dsc = .slice e) (he : (tt e).map TI.size = some 1) {z : Cells} {Q : Exit → Act → World → Prop}
    (h : copyVC mem nx z (ev env d) (ev env s) K) {W : World} (hW : MRel pv w0 mem W) : o.wp P a W (Post pv w0 mem o.op W o.dst a K) Q := by
  have hq : quietOp o.op = false := by rw [ho]; rfl
  have hu : P.underlying t = some (.slice e) := by have := (hTT t i ht).dsc; rw [hd] at this; exact this
  obtain ⟨ie, hie, hes⟩ := Option.map_eq_some_iff.1 he
  unfold copyVC at h
  cases hdv : ev env d <;> simp only [hdv] at h <;> try exact h.elim
  rename_i l g off len cap
  have ed := ev_is hE hdv rfl
  cases hg : getA mem l with
  | none => simp [hg] at h
  | some me =>
    rw [hg] at h
    cases me with
    | own g' ty cs =>
      obtain ⟨⟨rfl, hoff⟩, h⟩ := h
      obtain ⟨ys, h, hgx, hr⟩ := rd_run (pv := pv) (w0 := w0) h
      obtain ⟨A, c, hxc, hlc, hsl, hblkA⟩ := hr W hW
      have es := ev_is hE (x := s) rfl hgx
      cases hup : cs.upd off (ys.part 0 (min ys.len len)) with
      | none => simp [hup] at h
      | some c1 =>
        simp only [hup] at h
        obtain ⟨how, hbase, h1c⟩ := hW.ok _ _ hg
        have hpl : (ys.part 0 (min ys.len len)).len = min ys.len len := by rw [Cells.part_len]; omega
        obtain ⟨e1, e2⟩ := Cells.upd_ok cs off _ c1 hup (by rw [hpl]; omega)
        have hc1 := Cells.upd_ones cs off _ c1 hup h1c
        have hpv : (ys.part 0 (min ys.len len)).vals = ys.vals.take (min ys.len len) := by rw [Cells.vals_part, List.drop_zero]
        have hones : ∀ v ∈ ys.vals.take (min ys.len len), v.oneCell' = true := by
          intro y hy
          refine Cells.ones_ok c1 hc1 y ?_
          rw [e1, hpv]; simp [hy]
        have hvl := Cells.vals_length ys
        have hload : (Builtin.firstCells 1 (min ys.len len) (.slice A ys.len c)).run P W = .ok (ys.vals.take (min ys.len len)).toArray W := by
          cases A with
          | none =>
            have : ys.vals = [] := by
              cases hy : ys.vals with
              | nil => rfl
              | cons y r =>
                obtain ⟨b, o1, hA, _⟩ := hsl.2 0 y (by rw [hy]; rfl)
                cases hA
            simp [Builtin.firstCells, this]
          | some ad =>
            have hlen : (ys.vals.take (min ys.len len)).length = min ys.len len * 1 := by rw [List.length_take, hvl]; omega
            unfold Builtin.firstCells
            have := run_loadCells_list (P := P) W ad (ys.vals.take (min ys.len len)) fun j v hj => by
              rw [List.getElem?_take] at hj
              split at hj
              · obtain ⟨b, o1, hA, hc⟩ := hsl.2 j v hj
                injection hA with hA; subst hA
                rw [addA]; exact hc
              · cases hj
            rw [hlen] at this
            exact this
        have hst := run_storeCells_at (P := P) g' off ty (ys.vals.take (min ys.len len)) 0 cs.vals.toArray W how (by have := Cells.vals_length cs; simp only [List.length_take, hvl, List.size_toArray]; omega) hones
        have hrun : (Builtin.copy_ #[t, u] o.type #[.slice (some ⟨g', off, none⟩) len cap, .slice A ys.len c]).run P W = .ok (.int .i64 (min ys.len len : Nat)) (W.setRow g' c1.vals.toArray) := by
          unfold Builtin.copy_
          have hm : Nat.min ys.len len = min ys.len len := rfl
          simp only [List.getElem?_toArray, List.getElem?_cons_zero, List.getElem?_cons_succ, Sem.run_bind, run_underlying hu, Result.andThen_ok, Builtin.lenOf, Sem.run_pure, (hTT e ie hie).rsize, hes, hm, hload, hst]
          rw [e1, hpv]
          simp only [Nat.add_zero]
          rfl
        have hexec : (execOp a.eval o).run P W = .ok (.value (.int .i64 (min ys.len len : Nat))) (W.setRow g' c1.vals.toArray) := by
          unfold execOp
          simp only [ho, resolve, invoke, builtin, Sem.run_bind, Sem.run_pure, Result.andThen_ok, List.map_toArray, List.map_cons, List.map_nil, ed, es, hxc]
          rw [show (AV.slc l g' off len cap).conc = .slice (some ⟨g', off, none⟩) len cap from rfl, hrun]
          rfl
        exact wp_of_value hexec ⟨_, _, _, _, .inr rfl, rfl, hW.write hg hc1, fun h => (by rw [hq] at h; cases h), Frm.row hg rfl _, Near.setOwn hg, h⟩
    | _ => exact h.elim
theorem op_pure (hTT : TTok P tt) (hE : ERel ds env a N) {o : Oper} {Q : Exit → Act → World → Prop} (h : pureVC tt env mem nx o.op K) {W : World} (hW : MRel pv w0 mem W) : o.wp P a W (Post pv w0 mem o.op W o.dst a K) Q := by
  obtain ⟨v, m, n, hg, hK, hnn, hr⟩ := pure_ok (P := P) (pv := pv) (w0 := w0) hTT hE h rfl
  exact wp_of_value (hr W hW).2 ⟨v, m, n, _, .inr rfl, rfl, (hr W hW).1, fun _ => Below.refl _ _, Frm.of_below _ (Below.refl _ _), hnn.near _, hK⟩
theorem op_blt (hTT : TTok P tt) (hE : ERel ds env a N) {o : Oper} {c : Call} {b : Builtin} (ho : o.op = .call c) (hc : c.callee = .builtin b) (hq : quietOp o.op = true) {Q : Exit → Act → World → Prop} (h : bltVC tt mem nx b (c.args.toList.map (ev env)) c.argTypes.toList K) {W : World} (hW : MRel pv w0 mem W) : o.wp P a W (Post pv w0 mem o.op W o.dst a K) Q := by
  refine op_pure (nx := nx) hTT hE ?_ hW
  rw [ho]
  obtain ⟨callee, args, tys⟩ := c
  dsimp only at hc; subst hc
  exact h
theorem op_ok (hTT : TTok P tt) (hCT : CTok P ct) (hE : ERel ds env a N) {o : Oper} {op : Op} (ho : o.op = op) {Q : Exit → Act → World → Prop} (h : opVC tt ct env mem nx op K) {W : World} (hW : MRel pv w0 mem W) : o.wp P a W (Post pv w0 mem o.op W o.dst a K) Q := by
  cases op with
  | alloc e =>
    simp only [opVC] at h
    cases he : tt e with
    | none => simp [he] at h
    | some i =>
      simp only [he] at h
      have hi := hTT e i he
      have hr : (Instr.alloc e true (.tuple #[])).run P W = .ok ((.pointer (some ⟨W.heap.size, 0, none⟩))) (W.alloc (.cells i.zero.vals.toArray e)) := by
        unfold Instr.alloc
        simp only [Sem.run_bind, hi.rzero, Result.andThen_ok, run_newVar', hi.zcells, Sem.run_pure]
      exact wp_of_value (exec_value' (by simp only [execOp, ho]) hr) (post_new hW e i.zero hi.ones _ _ (.inr rfl) (h W.heap.size))
  | box e x =>
    simp only [opVC] at h
    cases hc : (ev env x).cells with
    | none => simp [hc] at h
    | some cs =>
      simp only [hc] at h
      have ex := ev_is hE (x := x) rfl (good_of_store hc)
      have hVc := AV.cells_ok _ cs hc _ (AV.is_refl _)
      have hr : (Instr.box e (a.eval x)).run P W = .ok ((.pointer (some ⟨W.heap.size, 0, none⟩))) (W.alloc (.cells cs.vals.toArray e)) := by
        unfold Instr.box
        rw [ex]
        simp only [Sem.run_bind, run_newVar', Result.andThen_ok, Sem.run_pure, hVc]
      exact wp_of_value (exec_value' (by simp only [execOp, ho]) hr) (post_new hW e cs h.1 _ _ (.inr rfl) (h.2 W.heap.size))
  | buildSlice t n ps =>
    simp only [opVC] at h
    cases ht : tt t with
    | none => simp [ht] at h
    | some i =>
      simp only [ht] at h
      cases hd : i.dsc <;> simp only [hd] at h <;> try exact h.elim
      rename_i e
      have hu : P.underlying t = some (.slice e) := by have := (hTT t i ht).dsc; rw [hd] at this; exact this
      cases he : tt e with
      | none => simp [he] at h
      | some ie =>
        simp only [he] at h
        obtain ⟨⟨hs, hn⟩, h⟩ := h
        have hTe := hTT e ie he
        have hzl : ie.zero.len = 1 := by rw [hTe.len, hs]
        obtain ⟨_, hrl, hro⟩ := Cells.rep_vals ie.zero n hzl hTe.ones
        have h := fill_ones _ _ _ h hro
        obtain ⟨cs', hK, hf, hl⟩ := fill_ok _ _ _ (ps.map fun (i, x) => (i, a.eval x)).toList h (by simp) (by
          intro j p q hp hq
          rw [List.getElem?_map] at hp
          rw [Array.toList_map, List.getElem?_map] at hq
          obtain ⟨z, hz, rfl⟩ := Option.map_eq_some_iff.1 hp
          rw [hz] at hq
          simp only [Option.map_some, Option.some.injEq] at hq
          subst hq
          exact ⟨rfl, ev_ok hE _⟩) hro
        have hr : (Instr.buildSlice t n (ps.map fun (i, x) => (i, a.eval x))).run P W = .ok (.slice (some ⟨W.heap.size, 0, none⟩) n n) (W.alloc (.cells cs'.vals.toArray e)) := by
          unfold Instr.buildSlice
          simp only [Sem.run_bind, run_underlying hu, Result.andThen_ok, hTe.rsize, hs, Nat.mul_one, if_neg (show ¬ n > 2 ^ 24 by omega), Sem.run_pure]
          by_cases h0 : n = 0
          · subst h0
            simp only [if_true, pure_bind]
            have : (Array.range 0).map (fun i => (#[] : Array Value)[i % (#[] : Array Value).size]!) = (ie.zero.rep 0).vals.toArray := by
              have := Cells.vals_length (ie.zero.rep 0)
              rw [hrl] at this
              rw [List.eq_nil_of_length_eq_zero this]; simp
            rw [this, hf]
            rfl
          · simp only [h0, if_false, Sem.run_bind, hTe.rzero, Result.andThen_ok, Sem.run_pure]
            rw [rep_made ie.zero ie.zeroV hTe.zcells hzl hTe.ones n, hf]
            rfl
        exact wp_of_value (exec_value' (by simp only [execOp, ho]) hr) (post_new hW e cs' hK.2 _ _ (.inr rfl) (hK.1 W.heap.size))
  | makeSlice t l c =>
    simp only [opVC] at h
    cases ht : tt t with
    | none => simp [ht] at h
    | some i =>
      simp only [ht] at h
      cases hd : i.dsc <;> simp only [hd] at h <;> try exact h.elim
      rename_i e
      have hu : P.underlying t = some (.slice e) := by have := (hTT t i ht).dsc; rw [hd] at this; exact this
      cases he : tt e with
      | none => simp [he] at h
      | some ie =>
        cases hl : ev env l <;> simp only [he, hl] at h <;> try exact h.elim
        rename_i n
        cases hc : ev env c <;> simp only [hc] at h <;> try exact h.elim
        rename_i m
        obtain ⟨⟨hs, h0, hnm, hb, hm⟩, hK⟩ := h
        have hTe := hTT e ie he
        have hzl : ie.zero.len = 1 := by rw [hTe.len, hs]
        obtain ⟨hrv, hrl, hro⟩ := Cells.rep_vals ie.zero m.toNat hzl hTe.ones
        obtain ⟨i0, hi, hzz⟩ := Option.map_eq_some_iff.1 hTe.info
        simp only [Prod.mk.injEq] at hzz
        obtain ⟨hz0, hz1, hz2⟩ := hzz
        have hr : (Instr.makeSlice t (.int .i64 n) (.int .i64 m)).run P W = .ok (.slice (some ⟨W.heap.size, 0, none⟩) n.toNat m.toNat) (W.alloc (.cells (ie.zero.rep m.toNat).vals.toArray e)) := by
          rw [run_make W t e i0 _ hu hi hz0 .i64 .i64 n m h0 hnm (by rw [hz2, Int.mul_comm]; omega) (by omega)]
          congr 3
          rw [hrv, hz1, hs, Nat.mul_one]
          have hvl : ie.zero.vals.length = 1 := by rw [Cells.vals_length, hzl]
          obtain ⟨v, hv⟩ := List.length_eq_one_iff.1 hvl
          unfold madeCells
          rw [hTe.zcells, hv]
          apply Array.ext
          · simp
          · intro i h1 h2; simp [Nat.mod_one]
        refine wp_of_value (exec_value' (s := Instr.makeSlice t (a.eval l) (a.eval c)) (by simp only [execOp, ho]) (by rw [ev_is hE hl rfl, ev_is hE hc rfl]; exact hr)) (post_new hW e _ hro _ _ (.inr rfl) (hK W.heap.size))
  | store t x v =>
    simp only [opVC] at h
    cases ht : tt t with
    | none => simp [ht] at h
    | some i =>
      simp only [ht] at h
      exact store_ok hTT hE ho ht h hW
  | call c =>
    simp only [opVC] at h
    split at h
    · rename_i F hF
      exact call_ok hCT hE ho hF h hW
    · rename_i hF
      obtain ⟨callee, args, tys⟩ := c
      dsimp only at hF; subst hF
      obtain ⟨args⟩ := args
      obtain ⟨tys⟩ := tys
      dsimp only at h
      split at h
      · rename_i s x t u
        split at h
        · rename_i htu
          subst htu
          exact app_ok hTT hE ho h hW
        · exact apz_ok hTT hE ho h hW
      · exact h.elim
    · rename_i hF
      obtain ⟨callee, args, tys⟩ := c
      dsimp only at hF; subst hF
      obtain ⟨args⟩ := args
      obtain ⟨tys⟩ := tys
      dsimp only at h
      split at h
      · rename_i d s t u
        obtain ⟨_, h⟩ := h
        cases ht : tt t with
        | none => simp [ht] at h
        | some i =>
          simp only [ht] at h
          cases hd : i.dsc <;> simp only [hd] at h <;> try exact h.elim
          exact copy_ok hTT hE ho ht hd h.1 h.2 hW
      · exact h.elim
    · rename_i b hb1 hb2 hF
      refine op_blt hTT hE ho hF ?_ h hW
      rw [ho]
      simp only [quietOp, hF]
      cases b <;> first | rfl | exact absurd rfl hb1 | exact absurd rfl hb2
    · exact h.elim
  | convert s d x =>
    simp only [opVC] at h
    split at h
    · rename_i hs hx
      obtain rfl : s = d := of_decide_eq_true hs
      exact mark_ok hTT hE ho hx h hW
    · exact op_pure (nx := nx) hTT hE (by rw [ho]; exact h) hW
  | _ => exact op_pure (nx := nx) hTT hE (by rw [ho]; exact h) hW
end
end Go.Proofs.Ytjleiifcigojoaa
